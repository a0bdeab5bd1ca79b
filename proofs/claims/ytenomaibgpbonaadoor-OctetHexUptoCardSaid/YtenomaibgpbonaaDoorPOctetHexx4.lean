/- Go functions as Lean functions and their contracts: each call comes to what the Lean function says; or a law's row out of them. No conditions. Written by this session's wip/hprint.py (the kit's print with contracts and repairs of my own). -/
import Derived.Test.YtenomaibgpbonaaDoorPOctetHexx0
import Derived.Test.YtenomaibgpbonaaDoorPOctetHexx1
import Derived.Test.YtenomaibgpbonaaDoorPOctetHexx2
import Derived.Test.YtenomaibgpbonaaDoorPOctetHexx3
namespace Go.Proofs.YtenomaibgpbonaaDoor.POctetHex
open Go.RowKit Go.Proofs.YtenomaibgpbonaaDoorW.PrintWords Go.Proofs.YtenomaibgpbonaaDoorW.PrintLast Go.Proofs.YtenomaibgpbonaaDoorW.PrintMore
attribute [local go_sem] max2_int min2_int max_two min_two max_three min_three max_four min_four   -- for this text's walks alone
set_option linter.unusedVariables false
set_option linter.unusedSimpArgs false

/-! ### plumblaw16_OctetHex: function 5 -/
def plumblaw16_OctetHex.j0 : Nat → ByteArray → Bool → Option (Bool)
  | 0, _, _ => none
  | k + 1, x1, x26 => if x26 = true then (some false) else ((octet_Unhex.f k x1).bind fun bt159 => ((plumbref16_Unhex.f k x1).bind fun bt163 => ((plumblaw16_same.f k bt159.1 bt163.1).bind fun t168 => (if t168 = true then ((plumblaw16_sameErr.f bt159.2 bt163.2.1 bt163.2.2).bind fun t169 => (some t169)) else (some false)))))
def plumblaw16_OctetHex.f (k : Nat) (l0 : List Int) (a1 : ByteArray) : Option (Bool) := (plumblaw16_lent.f l0).bind fun t149 => (if 0 ≤ (l0.length : Int) then (if (l0.length : Int) ≤ (t149.length : Int) then ((octet_Hex.f k (t149.take ((l0.length : Int) : Int).toNat)).bind fun t156 => ((plumbref16_Hex.f k l0).bind fun t157 => (if t156.toList = t157.toList then ((plumblaw16_kept.f k t149 l0).bind fun t158 => (plumblaw16_OctetHex.j0 k a1 (!t158))) else (plumblaw16_OctetHex.j0 k a1 true)))) else (none)) else (none))
theorem plumblaw16_OctetHex.mono_l : ∀ k, (∀ y0 y1, LeO (plumblaw16_OctetHex.j0 k y0 y1) (plumblaw16_OctetHex.j0 (k + 1) y0 y1))
  | 0 => fun _ _ r h => by simp [plumblaw16_OctetHex.j0] at h
  | k + 1 => by
    have ih0 := plumblaw16_OctetHex.mono_l k
    · intro y0 y1
      unfold plumblaw16_OctetHex.j0
      repeat' first
      | (with_reducible exact ih0 _ _)
      | (with_reducible exact octet_Hex.mono _ _)
      | (with_reducible exact octet_Unhex.mono _ _)
      | (with_reducible exact plumblaw16_kept.mono _ _ _)
      | (with_reducible exact plumblaw16_same.mono _ _ _)
      | (with_reducible exact plumbref16_Hex.mono _ _)
      | (with_reducible exact plumbref16_Unhex.mono _ _)
      | (with_reducible exact LeO.refl _)
      | (with_reducible exact LeO.none _)
      | (with_reducible refine LeO.ite ?_ ?_)
      | (with_reducible refine LeO.bind ?_ (fun _ => ?_))
      | exact ih0 _ _
      | exact octet_Hex.mono _ _
      | exact octet_Unhex.mono _ _
      | exact plumblaw16_kept.mono _ _ _
      | exact plumblaw16_same.mono _ _ _
      | exact plumbref16_Hex.mono _ _
      | exact plumbref16_Unhex.mono _ _
      | exact LeO.none _
      | refine LeO.ite ?_ ?_
      | refine LeO.bind ?_ (fun _ => ?_)
theorem plumblaw16_OctetHex.mono : ∀ a0 a1 k, LeO (plumblaw16_OctetHex.f k a0 a1) (plumblaw16_OctetHex.f (k + 1) a0 a1) := by
  intro a0 a1 k
  have ih0 := plumblaw16_OctetHex.mono_l k
  unfold plumblaw16_OctetHex.f
  repeat' first
      | (with_reducible exact ih0 _ _)
      | (with_reducible exact octet_Hex.mono _ _)
      | (with_reducible exact octet_Unhex.mono _ _)
      | (with_reducible exact plumblaw16_kept.mono _ _ _)
      | (with_reducible exact plumblaw16_same.mono _ _ _)
      | (with_reducible exact plumbref16_Hex.mono _ _)
      | (with_reducible exact plumbref16_Unhex.mono _ _)
      | (with_reducible exact LeO.refl _)
      | (with_reducible exact LeO.none _)
      | (with_reducible refine LeO.ite ?_ ?_)
      | (with_reducible refine LeO.bind ?_ (fun _ => ?_))
      | exact ih0 _ _
      | exact octet_Hex.mono _ _
      | exact octet_Unhex.mono _ _
      | exact plumblaw16_kept.mono _ _ _
      | exact plumblaw16_same.mono _ _ _
      | exact plumbref16_Hex.mono _ _
      | exact plumbref16_Unhex.mono _ _
      | exact LeO.none _
      | refine LeO.ite ?_ ?_
      | refine LeO.bind ?_ (fun _ => ?_)
set_option maxHeartbeats 8000000 in
set_option maxRecDepth 100000 in
theorem plumblaw16_OctetHex.calls (k : Nat) (A0 : Option Addr) (c0 : Nat) (l0 : List Int) (a1 : ByteArray) (r : Bool) (w : World) (hgl : Handle w) (hr0 : Kd.C (Kd.int .u8) w A0 l0.length l0) (hc0 : l0.length ≤ c0) (h : plumblaw16_OctetHex.f k l0 a1 = some r) :
    Calls Tryd.prog 5 #[.slice A0 l0.length c0, .string a1] w fun e w' => e = .returned (.bool r) ∧ Below w.heap.size w w' := by
  have HHG := Aside0.mk hgl
  clear hgl
  have HR0 := Aside0.mk hr0
  have HC0 := Aside0.mk hc0
  clear hr0 hc0
  have HB := Aside0.mk (Below.refl w.heap.size w)
  have H : ((plumblaw16_lent.f l0).bind fun t149 => (if 0 ≤ (l0.length : Int) then (if (l0.length : Int) ≤ (t149.length : Int) then ((octet_Hex.f k (t149.take ((l0.length : Int) : Int).toNat)).bind fun t156 => ((plumbref16_Hex.f k l0).bind fun t157 => (if t156.toList = t157.toList then ((plumblaw16_kept.f k t149 l0).bind fun t158 => (plumblaw16_OctetHex.j0 k a1 (!t158))) else (plumblaw16_OctetHex.j0 k a1 true)))) else (none)) else (none))) = some r := h
  clear h
  replace H := Option.bind_eq_some_iff.mp H
  obtain ⟨t149, A30, H⟩ := H
  replace H : (if 0 ≤ (l0.length : Int) then (if (l0.length : Int) ≤ (t149.length : Int) then ((octet_Hex.f k (t149.take ((l0.length : Int) : Int).toNat)).bind fun t156 => ((plumbref16_Hex.f k l0).bind fun t157 => (if t156.toList = t157.toList then ((plumblaw16_kept.f k t149 l0).bind fun t158 => (plumblaw16_OctetHex.j0 k a1 (!t158))) else (plumblaw16_OctetHex.j0 k a1 true)))) else (none)) else (none)) = some r := H
  have A3 := Aside0.mk A30
  clear A30
  have HC4 := Aside0.mk H
  clear H
  go_enter Tryd.func5, Tryd.ntmps5
  go_upto_region 2 with (first | ((with_reducible refine gate_callee (f := 8) rfl ?_); refine goesL_ (some 12) rfl rfl Tryd.func8 (by kernel_rfl) rfl #[.slice A0 l0.length c0] rfl (by (try simp only [List.map_toArray, List.map_cons, List.map_nil]); first | done | rfl | (simp only [List.length_drop, List.length_take]; rfl)) ?_; (with_reducible refine (plumblaw16_lent.calls _ _ l0 t149 _ ?side1 ?side2 A3.out).mono ?_); (case side1 => repeat (first | exact HR0.out | (with_reducible refine Kd.C_alloc ?_ _) | (with_reducible refine Kd.C_drewN ?_ _) | (with_reducible refine Kd.C_drew ?_))); (case side2 => exact HC0.out); rintro e w5 ⟨v150, rfl, ho0, hb⟩; refine ⟨_, rfl, ?_⟩; (try (have HEV2 := Aside0.mk (EV_below (by first | exact HEV.out | exact EV_drewN HEV.out _ | exact EV_alloc HEV.out _ | exact EV_drew HEV.out) hb); clear HEV; have HEV := HEV2; clear HEV2)); have n0_ := Aside0.mk (Kd.R_lower ho0 (below_size (by repeat (first | (with_reducible first | exact HB.out | apply below_alloc | apply pw_below_drewN | apply below_drew1) | exact HB.out)))); have n1_ := Aside0.mk (below_step (by repeat (first | (with_reducible first | exact HB.out | apply below_alloc | apply pw_below_drewN | apply below_drew1) | exact HB.out)) hb); clear HB; have HO151 := n0_; have HB := n1_; clear n0_ n1_; (try clear hb); (try clear hb2); (try clear hk); (try clear hi); (try clear ho0)))
  (try simp only [Act.put, List.setIfInBounds_toArray, List.set_cons_zero, List.set_cons_succ])
  go_cut [26] (fun v26 wc => ∃ (kq : Nat) (x26_3 : Bool), v26 = .bool x26_3 ∧ Aside0 (plumblaw16_OctetHex.j0 kq a1 x26_3 = some r) ∧ Aside0 (kq ≤ k) ∧ Aside0 (Below w.heap.size w wc))
  case first =>
    have H := HC4.out
    clear HC4
    by_cases c6 : 0 ≤ (l0.length : Int)
    · rw [if_pos c6] at H
      have c6b0 := eq_true c6
      have c6b1 : decide (0 ≤ (l0.length : Int)) = true := decide_eq_true c6
      clear c6
      by_cases c7 : (l0.length : Int) ≤ (t149.length : Int)
      · rw [if_pos c7] at H
        have c7b0 := eq_true c7
        have c7b1 : decide ((l0.length : Int) ≤ (t149.length : Int)) = true := decide_eq_true c7
        clear c7
        obtain ⟨y152, hy152⟩ : ∃ y_ : List Int, y_ = (t149.take ((l0.length : Int) : Int).toNat) := ⟨_, rfl⟩
        replace H : ((octet_Hex.f k y152).bind fun t156 => ((plumbref16_Hex.f k l0).bind fun t157 => (if t156.toList = t157.toList then ((plumblaw16_kept.f k t149 l0).bind fun t158 => (plumblaw16_OctetHex.j0 k a1 (!t158))) else (plumblaw16_OctetHex.j0 k a1 true)))) = some r := by first | (rw [hy152]; with_reducible exact H) | (have H2_ := (Option.bind_some _ _).symm.trans H; rw [hy152]; with_reducible exact H2_) | (have H2_ := (Option.bind_some _ _).symm.trans H; with_reducible exact H2_) | with_reducible exact H | (rw [hy152]; exact H) | exact H
        have Ny152 := Aside0.mk hy152
        clear hy152
        replace H := Option.bind_eq_some_iff.mp H
        obtain ⟨t156, A80, H⟩ := H
        replace H : ((plumbref16_Hex.f k l0).bind fun t157 => (if t156.toList = t157.toList then ((plumblaw16_kept.f k t149 l0).bind fun t158 => (plumblaw16_OctetHex.j0 k a1 (!t158))) else (plumblaw16_OctetHex.j0 k a1 true))) = some r := H
        have A8 := Aside0.mk A80
        clear A80
        replace H := Option.bind_eq_some_iff.mp H
        obtain ⟨t157, A90, H⟩ := H
        replace H : (if t156.toList = t157.toList then ((plumblaw16_kept.f k t149 l0).bind fun t158 => (plumblaw16_OctetHex.j0 k a1 (!t158))) else (plumblaw16_OctetHex.j0 k a1 true)) = some r := H
        have A9 := Aside0.mk A90
        clear A90
        by_cases c10 : t156.toList = t157.toList
        · rw [if_pos c10] at H
          have c10b0 : (t156.toList == t157.toList) = true := beq_iff_eq.mpr c10
          have c10b1 : (t156.toList != t157.toList) = false := bne_eq_false_iff_eq.mpr c10
          clear c10
          (first | rw [c10b0] | (simp only [i64_w, i32_w]; rw [c10b0]) | skip)
          replace H := Option.bind_eq_some_iff.mp H
          obtain ⟨t158, A110, H⟩ := H
          replace H : (plumblaw16_OctetHex.j0 k a1 (!t158)) = some r := H
          have A11 := Aside0.mk A110
          clear A110
          have H' := Aside0.mk H
          clear H
          obtain ⟨Ao13, co13, eo13⟩ := Kd.R_slice HO151.out
          subst eo13
          have q12 : ((l0.length : Int) : Int) ≤ ((t149.length : Int) : Int) := of_decide_eq_true (by first | (with_reducible assumption) | assumption)
          obtain ⟨i012, hi012, _, hsz12, _⟩ := info_parts info5
          have hroom12 : t149.length ≤ co13 := (Kd.R_reads' HO151.out).2.1
          have hC12 : Kd.C (Kd.int .u8) _ Ao13 t149.length t149 := (Kd.R_reads' HO151.out).2.2
          have hcut12 := cut_to (P := Tryd.prog) 22 5 .i64 Tryd.underlying22 hi012 Ao13 t149.length co13 (l0.length : Int) (of_decide_eq_true (by first | (with_reducible assumption) | assumption)) q12 hroom12
          have hr12 := Kd.C_take (m := ((l0.length : Int) : Int).toNat) hC12 (by omega)
          have hy12 : y152.length = ((l0.length : Int) : Int).toNat := (by rw [Ny152.out, List.length_take]; omega)
          rw [← Ny152.out] at hr12
          rw [← hy12] at hcut12
          have HR155 := Aside0.mk hr12
          have HC155 := Aside0.mk (show y152.length ≤ co13 from by omega)
          clear hr12 hC12 hroom12 hi012 hsz12
          have KY12 := Aside0.mk hy12
          clear hy12
          have KL12 := Aside0.mk (show ((l0.length : Int) : Int).toNat ≤ t149.length from by omega)
          replace q12 := eq_true q12
          go_wp2_with (first | ((with_reducible refine gate_callee (f := 21) rfl ?_); refine goesL_ (some 17) rfl rfl Tryd.func21 (by kernel_rfl) rfl #[.slice Ao13 y152.length co13] rfl (by (try simp only [List.map_toArray, List.map_cons, List.map_nil]); first | done | rfl | (simp only [List.length_drop, List.length_take]; rfl)) ?_; (with_reducible refine (octet_Hex.calls k _ _ y152 t156 _ ?side1 ?side2 A8.out).mono ?_); (case side1 => repeat (first | exact (by repeat (first | (with_reducible exact HR155.out) | (with_reducible refine Kd.C_alloc ?_ _) | (with_reducible refine Kd.C_drewN ?_ _) | (with_reducible refine Kd.C_drew ?_) | exact HR155.out)) | (with_reducible refine Kd.C_alloc ?_ _) | (with_reducible refine Kd.C_drewN ?_ _) | (with_reducible refine Kd.C_drew ?_))); (case side2 => exact HC155.out); rintro e w14 ⟨rfl, hb⟩; refine ⟨_, rfl, ?_⟩; (try (have HEV2 := Aside0.mk (EV_below (by first | exact HEV.out | exact EV_drewN HEV.out _ | exact EV_alloc HEV.out _ | exact EV_drew HEV.out) hb); clear HEV; have HEV := HEV2; clear HEV2)); have n0_ := Aside0.mk (Kd.R_below (by (with_reducible repeat (first | apply Kd.R_alloc | apply Kd.R_drewN | apply Kd.R_drew)); exact HO151.out) hb); have n1_ := Aside0.mk (Kd.C_below (by repeat (first | (with_reducible exact HR155.out) | (with_reducible refine Kd.C_alloc ?_ _) | (with_reducible refine Kd.C_drewN ?_ _) | (with_reducible refine Kd.C_drew ?_) | exact HR155.out)) hb); have n2_ := Aside0.mk (below_step (by repeat (first | (with_reducible first | exact HB.out | apply below_alloc | apply pw_below_drewN | apply below_drew1) | exact HB.out)) hb); clear HO151; clear HR155; clear HB; have HO151 := n0_; have HR155 := n1_; have HB := n2_; clear n0_ n1_ n2_; (try clear hb); (try clear hb2); (try clear hk); (try clear hi)) | ((with_reducible refine gate_callee (f := 22) rfl ?_); refine goesL_ (some 19) rfl rfl Tryd.func22 (by kernel_rfl) rfl #[.slice A0 l0.length c0] rfl (by (try simp only [List.map_toArray, List.map_cons, List.map_nil]); first | done | rfl | (simp only [List.length_drop, List.length_take]; rfl)) ?_; (with_reducible refine (plumbref16_Hex.calls k _ _ l0 t157 _ ?side1 ?side2 A9.out).mono ?_); (case side1 => repeat (first | exact (Kd.C_below HR0.out HB.out) | (with_reducible refine Kd.C_alloc ?_ _) | (with_reducible refine Kd.C_drewN ?_ _) | (with_reducible refine Kd.C_drew ?_))); (case side2 => exact HC0.out); rintro e w15 ⟨rfl, hb⟩; refine ⟨_, rfl, ?_⟩; (try (have HEV2 := Aside0.mk (EV_below (by first | exact HEV.out | exact EV_drewN HEV.out _ | exact EV_alloc HEV.out _ | exact EV_drew HEV.out) hb); clear HEV; have HEV := HEV2; clear HEV2)); have n0_ := Aside0.mk (Kd.R_below (by (with_reducible repeat (first | apply Kd.R_alloc | apply Kd.R_drewN | apply Kd.R_drew)); exact HO151.out) hb); have n1_ := Aside0.mk (Kd.C_below (by repeat (first | (with_reducible exact HR155.out) | (with_reducible refine Kd.C_alloc ?_ _) | (with_reducible refine Kd.C_drewN ?_ _) | (with_reducible refine Kd.C_drew ?_) | exact HR155.out)) hb); have n2_ := Aside0.mk (below_step (by repeat (first | (with_reducible first | exact HB.out | apply below_alloc | apply pw_below_drewN | apply below_drew1) | exact HB.out)) hb); clear HO151; clear HR155; clear HB; have HO151 := n0_; have HR155 := n1_; have HB := n2_; clear n0_ n1_ n2_; (try clear hb); (try clear hb2); (try clear hk); (try clear hi)) | (go_at_call 11; (with_reducible refine (plumblaw16_kept.calls k _ _ t149 _ _ l0 t158 _ ?side1 ?side2 ?side3 ?side4 A11.out).mono ?_); (case side1 => repeat (first | exact (Kd.R_reads' HO151.out).2.2 | (with_reducible refine Kd.C_alloc ?_ _) | (with_reducible refine Kd.C_drewN ?_ _) | (with_reducible refine Kd.C_drew ?_))); (case side2 => exact (Kd.R_reads' HO151.out).2.1); (case side3 => repeat (first | exact (Kd.C_below HR0.out HB.out) | (with_reducible refine Kd.C_alloc ?_ _) | (with_reducible refine Kd.C_drewN ?_ _) | (with_reducible refine Kd.C_drew ?_))); (case side4 => exact HC0.out); rintro e w' ⟨rfl, ⟨nd, rfl⟩⟩))
          go_meet
          case rel => exact ⟨_, (!t158), (by first | rfl | (simp; done) | (simp [*]; done)), H', ⟨by first | omega | exact Nat.le_refl _⟩, ⟨by repeat (first | (with_reducible first | exact HB.out | apply below_alloc | apply pw_below_drewN | apply below_drew1) | exact HB.out)⟩⟩
        · rw [if_neg c10] at H
          have c10b0 : (t156.toList == t157.toList) = false := beq_eq_false_iff_ne.mpr c10
          have c10b1 : (t156.toList != t157.toList) = true := bne_iff_ne.mpr c10
          (first | rw [c10b0] | (simp only [i64_w, i32_w]; rw [c10b0]) | skip)
          have H' := Aside0.mk H
          clear H
          obtain ⟨Ao17, co17, eo17⟩ := Kd.R_slice HO151.out
          subst eo17
          have q16 : ((l0.length : Int) : Int) ≤ ((t149.length : Int) : Int) := of_decide_eq_true (by first | (with_reducible assumption) | assumption)
          obtain ⟨i016, hi016, _, hsz16, _⟩ := info_parts info5
          have hroom16 : t149.length ≤ co17 := (Kd.R_reads' HO151.out).2.1
          have hC16 : Kd.C (Kd.int .u8) _ Ao17 t149.length t149 := (Kd.R_reads' HO151.out).2.2
          have hcut16 := cut_to (P := Tryd.prog) 22 5 .i64 Tryd.underlying22 hi016 Ao17 t149.length co17 (l0.length : Int) (of_decide_eq_true (by first | (with_reducible assumption) | assumption)) q16 hroom16
          have hr16 := Kd.C_take (m := ((l0.length : Int) : Int).toNat) hC16 (by omega)
          have hy16 : y152.length = ((l0.length : Int) : Int).toNat := (by rw [Ny152.out, List.length_take]; omega)
          rw [← Ny152.out] at hr16
          rw [← hy16] at hcut16
          have HR155 := Aside0.mk hr16
          have HC155 := Aside0.mk (show y152.length ≤ co17 from by omega)
          clear hr16 hC16 hroom16 hi016 hsz16
          have KY16 := Aside0.mk hy16
          clear hy16
          have KL16 := Aside0.mk (show ((l0.length : Int) : Int).toNat ≤ t149.length from by omega)
          replace q16 := eq_true q16
          go_wp2_with (first | ((with_reducible refine gate_callee (f := 21) rfl ?_); refine goesL_ (some 17) rfl rfl Tryd.func21 (by kernel_rfl) rfl #[.slice Ao17 y152.length co17] rfl (by (try simp only [List.map_toArray, List.map_cons, List.map_nil]); first | done | rfl | (simp only [List.length_drop, List.length_take]; rfl)) ?_; (with_reducible refine (octet_Hex.calls k _ _ y152 t156 _ ?side1 ?side2 A8.out).mono ?_); (case side1 => repeat (first | exact (by repeat (first | (with_reducible exact HR155.out) | (with_reducible refine Kd.C_alloc ?_ _) | (with_reducible refine Kd.C_drewN ?_ _) | (with_reducible refine Kd.C_drew ?_) | exact HR155.out)) | (with_reducible refine Kd.C_alloc ?_ _) | (with_reducible refine Kd.C_drewN ?_ _) | (with_reducible refine Kd.C_drew ?_))); (case side2 => exact HC155.out); rintro e w18 ⟨rfl, hb⟩; refine ⟨_, rfl, ?_⟩; (try (have HEV2 := Aside0.mk (EV_below (by first | exact HEV.out | exact EV_drewN HEV.out _ | exact EV_alloc HEV.out _ | exact EV_drew HEV.out) hb); clear HEV; have HEV := HEV2; clear HEV2)); have n0_ := Aside0.mk (Kd.R_below (by (with_reducible repeat (first | apply Kd.R_alloc | apply Kd.R_drewN | apply Kd.R_drew)); exact HO151.out) hb); have n1_ := Aside0.mk (Kd.C_below (by repeat (first | (with_reducible exact HR155.out) | (with_reducible refine Kd.C_alloc ?_ _) | (with_reducible refine Kd.C_drewN ?_ _) | (with_reducible refine Kd.C_drew ?_) | exact HR155.out)) hb); have n2_ := Aside0.mk (below_step (by repeat (first | (with_reducible first | exact HB.out | apply below_alloc | apply pw_below_drewN | apply below_drew1) | exact HB.out)) hb); clear HO151; clear HR155; clear HB; have HO151 := n0_; have HR155 := n1_; have HB := n2_; clear n0_ n1_ n2_; (try clear hb); (try clear hb2); (try clear hk); (try clear hi)) | ((with_reducible refine gate_callee (f := 22) rfl ?_); refine goesL_ (some 19) rfl rfl Tryd.func22 (by kernel_rfl) rfl #[.slice A0 l0.length c0] rfl (by (try simp only [List.map_toArray, List.map_cons, List.map_nil]); first | done | rfl | (simp only [List.length_drop, List.length_take]; rfl)) ?_; (with_reducible refine (plumbref16_Hex.calls k _ _ l0 t157 _ ?side1 ?side2 A9.out).mono ?_); (case side1 => repeat (first | exact (Kd.C_below HR0.out HB.out) | (with_reducible refine Kd.C_alloc ?_ _) | (with_reducible refine Kd.C_drewN ?_ _) | (with_reducible refine Kd.C_drew ?_))); (case side2 => exact HC0.out); rintro e w19 ⟨rfl, hb⟩; refine ⟨_, rfl, ?_⟩; (try (have HEV2 := Aside0.mk (EV_below (by first | exact HEV.out | exact EV_drewN HEV.out _ | exact EV_alloc HEV.out _ | exact EV_drew HEV.out) hb); clear HEV; have HEV := HEV2; clear HEV2)); have n0_ := Aside0.mk (Kd.R_below (by (with_reducible repeat (first | apply Kd.R_alloc | apply Kd.R_drewN | apply Kd.R_drew)); exact HO151.out) hb); have n1_ := Aside0.mk (Kd.C_below (by repeat (first | (with_reducible exact HR155.out) | (with_reducible refine Kd.C_alloc ?_ _) | (with_reducible refine Kd.C_drewN ?_ _) | (with_reducible refine Kd.C_drew ?_) | exact HR155.out)) hb); have n2_ := Aside0.mk (below_step (by repeat (first | (with_reducible first | exact HB.out | apply below_alloc | apply pw_below_drewN | apply below_drew1) | exact HB.out)) hb); clear HO151; clear HR155; clear HB; have HO151 := n0_; have HR155 := n1_; have HB := n2_; clear n0_ n1_ n2_; (try clear hb); (try clear hb2); (try clear hk); (try clear hi)))
          go_meet
          case rel => exact ⟨_, (true), (by first | rfl | (simp; done) | (simp [*]; done)), H', ⟨by first | omega | exact Nat.le_refl _⟩, ⟨by repeat (first | (with_reducible first | exact HB.out | apply below_alloc | apply pw_below_drewN | apply below_drew1) | exact HB.out)⟩⟩
      · rw [if_neg c7] at H
        exact absurd H (by simp)
    · rw [if_neg c6] at H
      exact absurd H (by simp)
  case rest =>
    clear HC4
    try clear c1
    try clear q1
    try clear c2
    try clear p2
    try clear c5
    try clear c6
    try clear c6b0
    try clear c6b1
    try clear c7
    try clear c7b0
    try clear c7b1
    try clear c8
    try clear c10
    try clear c10b0
    try clear c10b1
    try clear q12
    try clear q16
    try clear q12
    try clear q16
    obtain ⟨kq, x26_3, rfl, HA, HJ3, HB⟩ := hcut
    cases kq with
    | zero => exact absurd HA.out (by simp [plumblaw16_OctetHex.j0])
    | succ kj3 =>
      have H := HA.out
      clear HA
      simp only [plumblaw16_OctetHex.j0] at H
      by_cases c20 : x26_3 = true
      · subst c20
        have H1 : (some false) = some r := by rw [if_pos rfl] at H; exact H
        clear H
        have H := H1
        clear H1
        obtain rfl := Option.some.inj H
        go_wp2
        go_ret
        exact ⟨by first | rfl | (simp [errW_none, errW_some] <;> rfl) | (simp [*, errW_none, errW_some] <;> rfl), by repeat (first | (with_reducible first | exact HB.out | apply below_alloc | apply pw_below_drewN | apply below_drew1) | exact HB.out)⟩
      · replace c20 := Bool.eq_false_iff.mpr c20
        subst c20
        have H1 : ((octet_Unhex.f kj3 a1).bind fun bt159 => ((plumbref16_Unhex.f kj3 a1).bind fun bt163 => ((plumblaw16_same.f kj3 bt159.1 bt163.1).bind fun t168 => (if t168 = true then ((plumblaw16_sameErr.f bt159.2 bt163.2.1 bt163.2.2).bind fun t169 => (some t169)) else (some false))))) = some r := by rw [if_neg (show ¬ (false = true) by decide)] at H; exact H
        clear H
        have H := H1
        clear H1
        replace H := Option.bind_eq_some_iff.mp H
        obtain ⟨⟨t159, t160⟩, A210, H⟩ := H
        replace H : ((plumbref16_Unhex.f kj3 a1).bind fun bt163 => ((plumblaw16_same.f kj3 t159 bt163.1).bind fun t168 => (if t168 = true then ((plumblaw16_sameErr.f t160 bt163.2.1 bt163.2.2).bind fun t169 => (some t169)) else (some false)))) = some r := H
        have A21 := Aside0.mk A210
        clear A210
        replace H := Option.bind_eq_some_iff.mp H
        obtain ⟨⟨t163, t164, t165⟩, A220, H⟩ := H
        replace H : ((plumblaw16_same.f kj3 t159 t163).bind fun t168 => (if t168 = true then ((plumblaw16_sameErr.f t160 t164 t165).bind fun t169 => (some t169)) else (some false))) = some r := H
        have A22 := Aside0.mk A220
        clear A220
        replace H := Option.bind_eq_some_iff.mp H
        obtain ⟨t168, A230, H⟩ := H
        replace H : (if t168 = true then ((plumblaw16_sameErr.f t160 t164 t165).bind fun t169 => (some t169)) else (some false)) = some r := H
        have A23 := Aside0.mk A230
        clear A230
        by_cases c24 : t168 = true
        · subst c24
          have H1 : ((plumblaw16_sameErr.f t160 t164 t165).bind fun t169 => (some t169)) = some r := by rw [if_pos rfl] at H; exact H
          clear H
          have H := H1
          clear H1
          replace H := Option.bind_eq_some_iff.mp H
          obtain ⟨t169, A250, H⟩ := H
          replace H : (some t169) = some r := H
          have A25 := Aside0.mk A250
          clear A250
          obtain rfl := Option.some.inj H
          go_wp2_with (first | ((with_reducible refine gate_callee (f := 23) rfl ?_); refine goesL_ (some 29) rfl rfl Tryd.func23 (by kernel_rfl) rfl #[.string a1] rfl (by (try simp only [List.map_toArray, List.map_cons, List.map_nil]); first | done | rfl | (simp only [List.length_drop, List.length_take]; rfl)) ?_; (with_reducible refine (octet_Unhex.calls kj3 a1 t159 t160 _ A21.out).mono ?_); rintro e w26 ⟨v161, ev_, rfl, ho0, hev_, hb⟩; refine ⟨_, rfl, ?_⟩; (try clear HEV); have HEV := Aside0.mk hev_; clear hev_; have n0_ := Aside0.mk (Kd.R_lower ho0 (below_size (by repeat (first | (with_reducible first | exact HB.out | apply below_alloc | apply pw_below_drewN | apply below_drew1) | exact HB.out)))); have n1_ := Aside0.mk (below_step (by repeat (first | (with_reducible first | exact HB.out | apply below_alloc | apply pw_below_drewN | apply below_drew1) | exact HB.out)) hb); clear HB; have HO162 := n0_; have HB := n1_; clear n0_ n1_; (try clear hb); (try clear hb2); (try clear hk); (try clear hi); (try clear ho0); (try simp only [errW_none, errW_some])) | ((with_reducible refine gate_callee (f := 24) rfl ?_); refine goesL_ (some 34) rfl rfl Tryd.func24 (by kernel_rfl) rfl #[.string a1] rfl (by (try simp only [List.map_toArray, List.map_cons, List.map_nil]); first | done | rfl | (simp only [List.length_drop, List.length_take]; rfl)) ?_; (with_reducible refine (plumbref16_Unhex.calls kj3 a1 t163 t164 t165 _ A22.out).mono ?_); rintro e w27 ⟨v166, rfl, ho0, hb⟩; refine ⟨_, rfl, ?_⟩; (try (have HEV2 := Aside0.mk (EV_below (by first | exact HEV.out | exact EV_drewN HEV.out _ | exact EV_alloc HEV.out _ | exact EV_drew HEV.out) hb); clear HEV; have HEV := HEV2; clear HEV2)); have n0_ := Aside0.mk (Kd.R_elder' (by (with_reducible repeat (first | apply Kd.R_alloc | apply Kd.R_drewN | apply Kd.R_drew)); exact HO162.out) (Kd.R_base ho0) hb); have n1_ := Aside0.mk (Kd.R_lower (Kd.R_new' ho0 (Kd.R_lt (by (with_reducible repeat (first | apply Kd.R_alloc | apply Kd.R_drewN | apply Kd.R_drew)); exact HO162.out))) (below_size (by repeat (first | (with_reducible first | exact HB.out | apply below_alloc | apply pw_below_drewN | apply below_drew1) | exact HB.out)))); have n2_ := Aside0.mk (below_step (by repeat (first | (with_reducible first | exact HB.out | apply below_alloc | apply pw_below_drewN | apply below_drew1) | exact HB.out)) hb); clear HO162; clear HB; have HO162 := n0_; have HO167 := n1_; have HB := n2_; clear n0_ n1_ n2_; (try clear hb); (try clear hb2); (try clear hk); (try clear hi); (try clear ho0); obtain ⟨Ao28, co28, eo28⟩ := Kd.R_slice HO162.out; subst eo28; obtain ⟨Ao29, co29, eo29⟩ := Kd.R_slice HO167.out; subst eo29) | ((with_reducible refine gate_callee (f := 25) rfl ?_); refine goesL_ (some 40) rfl rfl Tryd.func25 (by kernel_rfl) rfl #[.slice Ao28 t159.length co28, .slice Ao29 t163.length co29] rfl (by (try simp only [List.map_toArray, List.map_cons, List.map_nil]); first | done | rfl | (simp only [List.length_drop, List.length_take]; rfl)) ?_; (with_reducible refine (plumblaw16_same.calls kj3 _ _ t159 _ _ t163 true _ ?side1 ?side2 ?side3 ?side4 A23.out).mono ?_); (case side1 => repeat (first | exact (Kd.R_reads' HO162.out).2.2 | (with_reducible refine Kd.C_alloc ?_ _) | (with_reducible refine Kd.C_drewN ?_ _) | (with_reducible refine Kd.C_drew ?_))); (case side2 => exact (Kd.R_reads' HO162.out).2.1); (case side3 => repeat (first | exact (Kd.R_reads' HO167.out).2.2 | (with_reducible refine Kd.C_alloc ?_ _) | (with_reducible refine Kd.C_drewN ?_ _) | (with_reducible refine Kd.C_drew ?_))); (case side4 => exact (Kd.R_reads' HO167.out).2.1); rintro e w' ⟨rfl, ⟨nd, rfl⟩⟩; refine ⟨_, rfl, ?_⟩; have CA25 := fun W hg hv => plumblaw16_sameErr.calls ev_ t160 t164 t165 t169 W hg hv A25.out; try simp only [errW_none, errW_some] at CA25) | (go_at_call 15; (with_reducible refine (CA25 _ ?hhg ?hhv).mono ?_); (case hhg => exact Handle_below HHG.out (by repeat (first | (with_reducible first | exact HB.out | apply below_alloc | apply pw_below_drewN | apply below_drew1) | exact HB.out))); (case hhv => exact (by first | exact HEV.out | exact EV_drewN HEV.out _ | exact EV_alloc HEV.out _ | exact EV_drew HEV.out)); rintro e w30 ⟨rfl, hb⟩; (try (have HEV2 := Aside0.mk (EV_below (by first | exact HEV.out | exact EV_drewN HEV.out _ | exact EV_alloc HEV.out _ | exact EV_drew HEV.out) hb); clear HEV; have HEV := HEV2; clear HEV2)); have n0_ := Aside0.mk (Kd.R_below (by (with_reducible repeat (first | apply Kd.R_alloc | apply Kd.R_drewN | apply Kd.R_drew)); exact HO162.out) hb); have n1_ := Aside0.mk (Kd.R_below (by (with_reducible repeat (first | apply Kd.R_alloc | apply Kd.R_drewN | apply Kd.R_drew)); exact HO167.out) hb); have n2_ := Aside0.mk (below_step (by repeat (first | (with_reducible first | exact HB.out | apply below_alloc | apply pw_below_drewN | apply below_drew1) | exact HB.out)) hb); clear HO162; clear HO167; clear HB; have HO162 := n0_; have HO167 := n1_; have HB := n2_; clear n0_ n1_ n2_; (try clear hb); (try clear hb2); (try clear hk); (try clear hi)))
          go_ret
          exact ⟨by first | rfl | (simp [errW_none, errW_some] <;> rfl) | (simp [*, errW_none, errW_some] <;> rfl), by repeat (first | (with_reducible first | exact HB.out | apply below_alloc | apply pw_below_drewN | apply below_drew1) | exact HB.out)⟩
        · replace c24 := Bool.eq_false_iff.mpr c24
          subst c24
          have H1 : (some false) = some r := by rw [if_neg (show ¬ (false = true) by decide)] at H; exact H
          clear H
          have H := H1
          clear H1
          obtain rfl := Option.some.inj H
          go_wp2_with (first | ((with_reducible refine gate_callee (f := 23) rfl ?_); refine goesL_ (some 29) rfl rfl Tryd.func23 (by kernel_rfl) rfl #[.string a1] rfl (by (try simp only [List.map_toArray, List.map_cons, List.map_nil]); first | done | rfl | (simp only [List.length_drop, List.length_take]; rfl)) ?_; (with_reducible refine (octet_Unhex.calls kj3 a1 t159 t160 _ A21.out).mono ?_); rintro e w31 ⟨v161, ev_, rfl, ho0, hev_, hb⟩; refine ⟨_, rfl, ?_⟩; (try clear HEV); have HEV := Aside0.mk hev_; clear hev_; have n0_ := Aside0.mk (Kd.R_lower ho0 (below_size (by repeat (first | (with_reducible first | exact HB.out | apply below_alloc | apply pw_below_drewN | apply below_drew1) | exact HB.out)))); have n1_ := Aside0.mk (below_step (by repeat (first | (with_reducible first | exact HB.out | apply below_alloc | apply pw_below_drewN | apply below_drew1) | exact HB.out)) hb); clear HB; have HO162 := n0_; have HB := n1_; clear n0_ n1_; (try clear hb); (try clear hb2); (try clear hk); (try clear hi); (try clear ho0); (try simp only [errW_none, errW_some])) | ((with_reducible refine gate_callee (f := 24) rfl ?_); refine goesL_ (some 34) rfl rfl Tryd.func24 (by kernel_rfl) rfl #[.string a1] rfl (by (try simp only [List.map_toArray, List.map_cons, List.map_nil]); first | done | rfl | (simp only [List.length_drop, List.length_take]; rfl)) ?_; (with_reducible refine (plumbref16_Unhex.calls kj3 a1 t163 t164 t165 _ A22.out).mono ?_); rintro e w32 ⟨v166, rfl, ho0, hb⟩; refine ⟨_, rfl, ?_⟩; (try (have HEV2 := Aside0.mk (EV_below (by first | exact HEV.out | exact EV_drewN HEV.out _ | exact EV_alloc HEV.out _ | exact EV_drew HEV.out) hb); clear HEV; have HEV := HEV2; clear HEV2)); have n0_ := Aside0.mk (Kd.R_elder' (by (with_reducible repeat (first | apply Kd.R_alloc | apply Kd.R_drewN | apply Kd.R_drew)); exact HO162.out) (Kd.R_base ho0) hb); have n1_ := Aside0.mk (Kd.R_lower (Kd.R_new' ho0 (Kd.R_lt (by (with_reducible repeat (first | apply Kd.R_alloc | apply Kd.R_drewN | apply Kd.R_drew)); exact HO162.out))) (below_size (by repeat (first | (with_reducible first | exact HB.out | apply below_alloc | apply pw_below_drewN | apply below_drew1) | exact HB.out)))); have n2_ := Aside0.mk (below_step (by repeat (first | (with_reducible first | exact HB.out | apply below_alloc | apply pw_below_drewN | apply below_drew1) | exact HB.out)) hb); clear HO162; clear HB; have HO162 := n0_; have HO167 := n1_; have HB := n2_; clear n0_ n1_ n2_; (try clear hb); (try clear hb2); (try clear hk); (try clear hi); (try clear ho0); obtain ⟨Ao33, co33, eo33⟩ := Kd.R_slice HO162.out; subst eo33; obtain ⟨Ao34, co34, eo34⟩ := Kd.R_slice HO167.out; subst eo34) | ((with_reducible refine gate_callee (f := 25) rfl ?_); refine goesL_ (some 40) rfl rfl Tryd.func25 (by kernel_rfl) rfl #[.slice Ao33 t159.length co33, .slice Ao34 t163.length co34] rfl (by (try simp only [List.map_toArray, List.map_cons, List.map_nil]); first | done | rfl | (simp only [List.length_drop, List.length_take]; rfl)) ?_; (with_reducible refine (plumblaw16_same.calls kj3 _ _ t159 _ _ t163 false _ ?side1 ?side2 ?side3 ?side4 A23.out).mono ?_); (case side1 => repeat (first | exact (Kd.R_reads' HO162.out).2.2 | (with_reducible refine Kd.C_alloc ?_ _) | (with_reducible refine Kd.C_drewN ?_ _) | (with_reducible refine Kd.C_drew ?_))); (case side2 => exact (Kd.R_reads' HO162.out).2.1); (case side3 => repeat (first | exact (Kd.R_reads' HO167.out).2.2 | (with_reducible refine Kd.C_alloc ?_ _) | (with_reducible refine Kd.C_drewN ?_ _) | (with_reducible refine Kd.C_drew ?_))); (case side4 => exact (Kd.R_reads' HO167.out).2.1); rintro e w' ⟨rfl, ⟨nd, rfl⟩⟩; refine ⟨_, rfl, ?_⟩))
          go_ret
          exact ⟨by first | rfl | (simp [errW_none, errW_some] <;> rfl) | (simp [*, errW_none, errW_some] <;> rfl), by repeat (first | (with_reducible first | exact HB.out | apply below_alloc | apply pw_below_drewN | apply below_drew1) | exact HB.out)⟩

/-- THE ONE PURE STATEMENT of plumblaw16_OctetHex: yours. -/
def plumblaw16_OctetHex.Pure : Prop := ∀ (l0 : List Int) (a1 : ByteArray), l0.length ≤ maxLen → l0.length * 1 ≤ 1048576 → (∀ x ∈ l0, (Lit.int .u8 x).wf = true) → a1.size ≤ 1048576 → ∃ k, plumblaw16_OctetHex.f k l0 a1 = some true
theorem plumblaw16_OctetHex.walk (P : plumblaw16_OctetHex.Pure) (a0 : Option Addr) (len0 cap0 : Nat) (z0 : List Int) (a1 : ByteArray) (w : World) (hgl : Handle w) (w0 : (a0 = none ∧ len0 = 0 ∧ cap0 = 0 ∧ z0 = []) ∨ ∃ x, a0 = some x ∧ len0 ≤ cap0 ∧ cap0 ≤ maxLen ∧ z0.length = cap0 ∧ (∀ i, i < z0.length → w.cell? (x.add i) = some (.int .u8 (z0.getD i 0))) ∧ ∀ n ∈ z0, (Lit.int .u8 n).wf = true) (y0 : len0 * 1 ≤ 1048576) (w1 : a1.size ≤ 1048576) :
    Calls Tryd.prog 5 #[.slice a0 len0 cap0, .string a1] w fun e w' => e = .returned (.bool true) ∧ Below w.heap.size w w' := by
  obtain ⟨l0, rfl, hr0, hm0, hw0, hc0⟩ := ReadsInt.ofRowC w0
  obtain ⟨k, h⟩ := P l0 a1 hm0 y0 hw0 w1
  refine (plumblaw16_OctetHex.calls k _ _ l0 a1 true w hgl (Kd.C_of_reads (d := (0 : Int)) (h1 := fun _ => rfl) hr0) hc0 h).mono ?_
  rintro e w' ⟨rfl, hd⟩
  exact ⟨rfl, hd⟩

end Go.Proofs.YtenomaibgpbonaaDoor.POctetHex
