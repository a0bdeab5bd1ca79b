/- Texts of this claim laid one behind the other (PWkbPrintsx5; TGeoB): what each proves stands at its own names; the last one is the claim's. No conditions but those told. -/
import Derived.Test.YtiiolhnpnlmkjaaDoorZCnb
import Derived.RangeFuncRecord
import Derived.Deep.QuietTactic
import Derived.BigQuiet
namespace Go.Proofs.YtiiolhnpnlmkjaaDoor.PWkbPrints
open Go.RowKit Go.Proofs.YtiiolhnpnlmkjaaDoorW.PrintWords Go.Proofs.YtiiolhnpnlmkjaaDoorW.PrintLast Go.Proofs.YtiiolhnpnlmkjaaDoorW.PrintMore
attribute [local go_sem] max2_int min2_int max_two min_two max_three min_three max_four min_four   -- for this text's walks alone

/-- A state of type 103 at block g of W; what its slices lead to came in by w0. -/
def IsS103 (w0 W : World) (g : Nat) (f0 : List Int) (f1 : List Bool) (f2 : Int) : Prop := ∃ A0 c0, ∃ A1 c1, W.heap[g]? = some (.cells #[.slice A0 f0.length c0, .slice A1 f1.length c1, .int .i64 f2] 103 (0, 0)) ∧ w0.heap.size ≤ g ∧ Kd.C (Kd.int .u8) w0 A0 f0.length f0 ∧ Kd.C Kd.bool w0 A1 f1.length f1
theorem IsS103.grown {w0 W : World} {g : Nat} {f0 : List Int} {f1 : List Bool} {f2 : Int} {W1 : World} {row : Option Nat} (h : IsS103 w0 W g f0 f1 f2) (hw : W.grownBy W1 row) (hne : some g ≠ row) : IsS103 w0 W1 g f0 f1 f2 := by
  obtain ⟨A0, c0, A1, c1, hb, hg, hr0, hr1⟩ := h
  exact ⟨A0, c0, A1, c1, blk_grown hb hw hne, hg, hr0, hr1⟩
theorem IsS103.below {w0 W : World} {g : Nat} {f0 : List Int} {f1 : List Bool} {f2 : Int} {W1 : World} (h : IsS103 w0 W g f0 f1 f2) (hw : Below W.heap.size W W1) : IsS103 w0 W1 g f0 f1 f2 := h.grown (grown_of_below hw none) (by simp)
theorem IsS103.alloc {w0 W : World} {g : Nat} {f0 : List Int} {f1 : List Bool} {f2 : Int} (h : IsS103 w0 W g f0 f1 f2) (o : Obj) : IsS103 w0 (W.alloc o) g f0 f1 f2 := h.below (below_alloc (Below.refl _ _) o)
theorem IsS103.drewN {w0 W : World} {g : Nat} {f0 : List Int} {f1 : List Bool} {f2 : Int} (h : IsS103 w0 W g f0 f1 f2) (m : Nat) : IsS103 w0 (W.drewN m) g f0 f1 f2 := h
theorem IsS103.drew {w0 W : World} {g : Nat} {f0 : List Int} {f1 : List Bool} {f2 : Int} (h : IsS103 w0 W g f0 f1 f2) : IsS103 w0 W.drew g f0 f1 f2 := h
theorem IsS103.at_ {w0 W : World} {g : Nat} {f0 : List Int} {f1 : List Bool} {f2 : Int} {w' : World} {m : Nat} (hq : W.drewN m = w') (h : IsS103 w0 W g f0 f1 f2) : IsS103 w0 w' g f0 f1 f2 := by subst hq; exact IsS103.drewN h m
theorem IsS103.apart {w0 W : World} {g : Nat} {f0 : List Int} {f1 : List Bool} {f2 : Int} {α : Type} {d : Kd α} {e : Nat} {base : Nat} {ok : Nat → Prop} {v : Value} {xs : List α} (h : IsS103 w0 W g f0 f1 f2) (ho : d.R e W base ok v xs) (ht : ∀ q, q ∈ e :: d.E → q ≠ 103) : d.R e W base (fun k => ok k ∧ k ≠ g) v xs := by
  obtain ⟨A0, c0, A1, c1, hb, hg, hr0, hr1⟩ := h
  exact Kd.R_types ho hb ht
theorem IsS103.ge {w0 W : World} {g : Nat} {f0 : List Int} {f1 : List Bool} {f2 : Int} (h : IsS103 w0 W g f0 f1 f2) : w0.heap.size ≤ g := by
  obtain ⟨A0, c0, A1, c1, hb, hg, hr0, hr1⟩ := h
  exact hg
theorem IsS103.far {w0 W : World} {g : Nat} {f0 : List Int} {f1 : List Bool} {f2 : Int} {p : Addr} (h : IsS103 w0 W g f0 f1 f2) (hne : g ≠ p.block) (u : Value) : IsS103 w0 (W.setCell p u) g f0 f1 f2 := by
  obtain ⟨A0, c0, A1, c1, hb, hg, hr0, hr1⟩ := h
  exact ⟨A0, c0, A1, c1, blk_far hb hne u, hg, hr0, hr1⟩
theorem cellS103_0 {W : World} {g : Nat} {A0 : Option Addr} {c0 : Nat} {A1 : Option Addr} {c1 : Nat} {f0 : List Int} {f1 : List Bool} {f2 : Int} (h : W.heap[g]? = some (.cells #[.slice A0 f0.length c0, .slice A1 f1.length c1, .int .i64 f2] 103 (0, 0))) : W.cell? ⟨g, 0, none⟩ = some (.slice A0 f0.length c0) := (blk_cell h 0).trans rfl
theorem cellS103_1 {W : World} {g : Nat} {A0 : Option Addr} {c0 : Nat} {A1 : Option Addr} {c1 : Nat} {f0 : List Int} {f1 : List Bool} {f2 : Int} (h : W.heap[g]? = some (.cells #[.slice A0 f0.length c0, .slice A1 f1.length c1, .int .i64 f2] 103 (0, 0))) : W.cell? ⟨g, 1, none⟩ = some (.slice A1 f1.length c1) := (blk_cell h 1).trans rfl
theorem cellS103_2 {W : World} {g : Nat} {A0 : Option Addr} {c0 : Nat} {A1 : Option Addr} {c1 : Nat} {f0 : List Int} {f1 : List Bool} {f2 : Int} (h : W.heap[g]? = some (.cells #[.slice A0 f0.length c0, .slice A1 f1.length c1, .int .i64 f2] 103 (0, 0))) : W.cell? ⟨g, 2, none⟩ = some (.int .i64 f2) := (blk_cell h 2).trans rfl
theorem IsS103.set_2 {w0 W : World} {g : Nat} {f0 : List Int} {f1 : List Bool} {f2 : Int} (h : IsS103 w0 W g f0 f1 f2) (x : Int) : IsS103 w0 (W.setCell ⟨g, 2, none⟩ (.int .i64 x)) g f0 f1 x := by
  obtain ⟨A0, c0, A1, c1, hb, hg, hr0, hr1⟩ := h
  exact ⟨A0, c0, A1, c1, by simpa using blk_set hb 2 (.int .i64 x), hg, hr0, hr1⟩
theorem IsS103.new (w0 W : World) (A0 : Option Addr) (c0 : Nat) (A1 : Option Addr) (c1 : Nat) (f0 : List Int) (f1 : List Bool) (f2 : Int) (hB : Below w0.heap.size w0 W) (hr0 : Kd.C (Kd.int .u8) w0 A0 f0.length f0) (hr1 : Kd.C Kd.bool w0 A1 f1.length f1) : IsS103 w0 (W.alloc (.cells #[.slice A0 f0.length c0, .slice A1 f1.length c1, .int .i64 f2] 103)) W.heap.size f0 f1 f2 := ⟨A0, c0, A1, c1, by simpa using heap_alloc_new W _, hB.size, hr0, hr1⟩

def wkb_printer_order.f (s0_0 : List Int) (s0_1 : List Bool) (s0_2 : Int) : Option (Bool × Int) := if (s0_1.length : Int) = 0 then (some (false, wrap64 (s0_2 + 1))) else (if 0 ≤ (mn s0_2 (wrap64 ((s0_1.length : Int) - 1))) then (if (mn s0_2 (wrap64 ((s0_1.length : Int) - 1))) < (s0_1.length : Int) then (some (rdOf false s0_1 (mn s0_2 (wrap64 ((s0_1.length : Int) - 1))), wrap64 (s0_2 + 1))) else (none)) else (none))
set_option maxHeartbeats 8000000 in
set_option maxRecDepth 100000 in
theorem wkb_printer_order.calls (g : Nat) (s0_0 : List Int) (s0_1 : List Bool) (s0_2 : Int) (r1 : Bool) (r2 : Int) (w0 w : World) (hI : IsS103 w0 w g s0_0 s0_1 s0_2) (hB : Below w0.heap.size w0 w) (h : wkb_printer_order.f s0_0 s0_1 s0_2 = some (r1, r2)) :
    Calls Tryd.prog 72 #[.pointer (some ⟨g, 0, none⟩)] w fun e w' => e = .returned (.bool r1) ∧ IsS103 w0 w' g s0_0 s0_1 r2 ∧ Below w0.heap.size w0 w' ∧ KeepBut w w' g none := by
  have HI0 := Aside0.mk hI
  have HK := Aside0.mk (KeepBut.refl w g none)
  have HL := Aside0.mk hB.size
  clear hI
  have HW0 := Aside0.mk hB.size
  have HB := Aside0.mk hB
  clear hB
  have H : (if (s0_1.length : Int) = 0 then (some (false, wrap64 (s0_2 + 1))) else (if 0 ≤ (mn s0_2 (wrap64 ((s0_1.length : Int) - 1))) then (if (mn s0_2 (wrap64 ((s0_1.length : Int) - 1))) < (s0_1.length : Int) then (some (rdOf false s0_1 (mn s0_2 (wrap64 ((s0_1.length : Int) - 1))), wrap64 (s0_2 + 1))) else (none)) else (none))) = some (r1, r2) := h
  clear h
  by_cases c2 : (s0_1.length : Int) = 0
  · rw [if_pos c2] at H
    have c2b0 : ((s0_1.length : Int) == 0) = true := beq_iff_eq.mpr c2
    have c2b1 : ((s0_1.length : Int) != 0) = false := bne_eq_false_iff_eq.mpr c2
    clear c2
    simp only [Option.some.injEq, Prod.mk.injEq] at H
    obtain ⟨rfl, rfl⟩ := H
    obtain ⟨ASz3_0, cSz3_0, ASz3_1, cSz3_1, HGz3, hgz3, HSz3_0, HSz3_1⟩ := HI0.out
    have hcz3_0 := cellS103_0 HGz3
    have hcz3_1 := cellS103_1 HGz3
    have hcz3_2 := cellS103_2 HGz3
    have hfz3_2 := blk_frozen HGz3 2
    clear HGz3 hgz3
    go_enter Tryd.func72, Tryd.ntmps72
    go_wp2
    repeat (go_quiet (fail); try go_wp2)
    go_ret
    exact ⟨by first | rfl | (simp [errW_none, errW_some] <;> rfl) | (simp [*, errW_none, errW_some] <;> rfl), by repeat (first | (with_reducible first | exact HI0.out | apply IsS103.alloc | apply IsS103.drewN | apply IsS103.drew | apply IsS103.set_2) | exact HI0.out), by repeat (first | (with_reducible first | exact HB.out | apply below_alloc | apply pw_below_drewN | apply below_drew1 | refine below_set ?_ (IsS103.ge HI0.out)) | exact HB.out), by repeat (first | (with_reducible first | exact HK.out | apply KeepBut.set_ | apply keep_drewN | apply keep_drew | apply keep_alloc) | exact HK.out)⟩
  · rw [if_neg c2] at H
    have c2b0 : ((s0_1.length : Int) == 0) = false := beq_eq_false_iff_ne.mpr c2
    have c2b1 : ((s0_1.length : Int) != 0) = true := bne_iff_ne.mpr c2
    have c2b2 : ¬ (s0_1 = []) := fun h_ => c2 (by rw [h_]; rfl)
    obtain ⟨ji4, hji4⟩ : ∃ j_ : Int, (mn s0_2 (wrap64 ((s0_1.length : Int) - 1))) = j_ := ⟨_, rfl⟩
    replace H : (if 0 ≤ (ji4) then (if (ji4) < (s0_1.length : Int) then (some (rdOf false s0_1 (ji4), wrap64 (s0_2 + 1))) else (none)) else (none)) = some (r1, r2) := by first | (rw [hji4] at H; exact H) | (simp only [hji4] at H ⊢; exact H)
    have hji4_ : (if (wrap64 ((s0_1.length : Int) - 1)) < s0_2 then (wrap64 ((s0_1.length : Int) - 1)) else s0_2) = ji4 := hji4
    by_cases c5 : 0 ≤ (ji4)
    · rw [if_pos c5] at H
      have c5b0 : decide (0 ≤ (ji4)) = true := decide_eq_true c5
      clear c5
      by_cases c6 : (ji4) < (s0_1.length : Int)
      · rw [if_pos c6] at H
        have c6b0 : decide ((ji4) < (s0_1.length : Int)) = true := decide_eq_true c6
        clear c6
        simp only [Option.some.injEq, Prod.mk.injEq] at H
        obtain ⟨rfl, rfl⟩ := H
        obtain ⟨ASz7_0, cSz7_0, ASz7_1, cSz7_1, HGz7, hgz7, HSz7_0, HSz7_1⟩ := HI0.out
        have hcz7_0 := cellS103_0 HGz7
        have hcz7_1 := cellS103_1 HGz7
        have hcz7_2 := cellS103_2 HGz7
        have hfz7_2 := blk_frozen HGz7 2
        clear HGz7 hgz7
        have p152 : 0 ≤ ((ji4) : Int) := of_decide_eq_true (by first | (with_reducible assumption) | assumption)
        have q152 : (ji4) < (s0_1.length : Int) := of_decide_eq_true (by first | (with_reducible assumption) | assumption)
        obtain ⟨ad152, e152, hx152_0⟩ := Kd.at_bool HSz7_1 (ji4) p152 q152
        cases e152
        have hn152_0 : ad152.block ≠ g := Nat.ne_of_lt (Nat.lt_of_lt_of_le (by have := World.block_lt_of_cell? _ _ hx152_0; first | rwa [add_block] at this | exact this) (IsS103.ge HI0.out))
        replace hx152_0 := pw_cell_below HB.out hx152_0
        replace hx152_0 := (cell_far (p := ⟨g, 2, none⟩) (by first | (rw [add_block]; exact hn152_0) | (show (Addr.add _ _).block ≠ _; rw [add_block]; exact hn152_0) | exact hn152_0) (.int .i64 (wrap64 (s0_2 + 1)))).trans hx152_0
        (try have hy152_0 := fun (n_ : Nat) => (show (((w.drewN n_).setCell ⟨g, 2, none⟩ (.int .i64 (wrap64 (s0_2 + 1))))).cell? _ = some _ from hx152_0))
        clear hn152_0
        replace p152 := eq_true p152
        replace q152 := eq_true q152
        go_enter Tryd.func72, Tryd.ntmps72
        go_wp2
        repeat (go_quiet (fail); try go_wp2)
        go_ret
        exact ⟨by first | rfl | (simp [errW_none, errW_some] <;> rfl) | (simp only [← hji4]; first | rfl | (simp [errW_none, errW_some] <;> rfl)) | (simp [*, errW_none, errW_some] <;> rfl), by repeat (first | (with_reducible first | exact HI0.out | apply IsS103.alloc | apply IsS103.drewN | apply IsS103.drew | apply IsS103.set_2) | exact HI0.out), by repeat (first | (with_reducible first | exact HB.out | apply below_alloc | apply pw_below_drewN | apply below_drew1 | refine below_set ?_ (IsS103.ge HI0.out)) | exact HB.out), by repeat (first | (with_reducible first | exact HK.out | apply KeepBut.set_ | apply keep_drewN | apply keep_drew | apply keep_alloc) | exact HK.out)⟩
      · rw [if_neg c6] at H
        exact absurd H (by simp)
    · rw [if_neg c5] at H
      exact absurd H (by simp)

def octet_put_uint32.out (l : List Int) (v : Int) (le : Bool) : List Int := if le = true then l ++ [v % 256, v / 256 % 256, v / 65536 % 256, v / 16777216 % 256] else l ++ [v / 16777216 % 256, v / 65536 % 256, v / 256 % 256, v % 256]
def octet_put_uint32.f (l0 : List Int) (a1 : Int) (a2 : Int) (a3 : Bool) : Option (List Int) := if a2 = 4 ∧ l0.length ≤ 140737488355316 then some (octet_put_uint32.out l0 a1 a3) else none
theorem octet_put_uint32.sets (l zs : List Int) (L : Int) (hL : (l.length : Int) = L) (hz : zs.length = l.length + 4) (x0 x1 x2 x3 : Int) : (((((l.take zs.length ++ zs.drop l.length).set L.toNat x0).set (L + 1).toNat x1).set (L + 2).toNat x2).set (L + 3).toNat x3) = l ++ [x0, x1, x2, x3] := by
  subst hL
  have hd : (zs.drop l.length).length = 4 := by rw [List.length_drop]; omega
  obtain ⟨ws, hw⟩ : ∃ ws, zs.drop l.length = ws := ⟨_, rfl⟩
  rw [hw] at hd ⊢
  rw [List.take_of_length_le (by omega)]
  obtain ⟨y0, y1, y2, y3, rfl⟩ : ∃ y0 y1 y2 y3, ws = [y0, y1, y2, y3] := by
    match ws, hd with
    | [y0, y1, y2, y3], _ => exact ⟨y0, y1, y2, y3, rfl⟩
  rw [show ((l.length : Int)).toNat = l.length + 0 from by omega, List.set_append_right _ _ (by omega), Nat.add_sub_cancel_left]
  rw [show ((l.length : Int) + 1).toNat = l.length + 1 from by omega, List.set_append_right _ _ (by omega), Nat.add_sub_cancel_left]
  rw [show ((l.length : Int) + 2).toNat = l.length + 2 from by omega, List.set_append_right _ _ (by omega), Nat.add_sub_cancel_left]
  rw [show ((l.length : Int) + 3).toNat = l.length + 3 from by omega, List.set_append_right _ _ (by omega), Nat.add_sub_cancel_left]
  rfl
def octet_put_uint32_stop (p : Prop) : Prop := p
theorem octet_put_uint32_put_stop {p : Prop} (h : octet_put_uint32_stop p) : p := h
set_option maxHeartbeats 4000000 in
set_option maxRecDepth 100000 in
theorem octet_put_uint32.any (A0 : Option Addr) (c0 : Nat) (l : List Int) (v : Int) (le : Bool) (w : World) (hr0 : Kd.C (Kd.int .u8) w A0 l.length l) (hc0 : l.length ≤ c0) (hl : l.length ≤ 140737488355316) :
    Calls Tryd.prog 51 #[.slice A0 l.length c0, .int .u32 v, .int .i64 4, .bool le] w fun e w' => ∃ v0_ : Value, e = .returned (v0_) ∧ Kd.R (Kd.int .u8) 5 w' w.heap.size (fun _ => True) v0_ (octet_put_uint32.out l v le) ∧ Below w.heap.size w w' := by
  have HR0 := Aside0.mk hr0
  have HC0 := Aside0.mk hc0
  have HL := Aside0.mk hl
  have hn : wrap64 ((l.length : Int) + 4) = (l.length : Int) + 4 := by unfold wrap64; omega
  have HN := Aside0.mk hn
  clear hr0 hc0 hl hn
  go_enter Tryd.func51, Tryd.ntmps51
  go_wp2_with (first
    | ((with_reducible refine gate_dst (N := 17) rfl ?_); refine Kd.R_make (Kd.int .u8) (w0 := w) w.heap.size 5 rfl (N := 17) rfl 22 _ _ rfl (wrap64 ((l.length : Int) + 4)) rfl rfl Tryd.underlying22 (.int .u8 0) 1 info5 rfl (by decide) (by omega) 0 (ok := fun _ => True) (okp := fun _ => False) rfl (fun _ h => h.elim) True.intro (by have := HN.out; omega) ?aL (Below.refl _ _) (Nat.le_refl _) ?_; (case aL => have := HL.out; have := HN.out; omega)
       intro v1 w1 ho hb hg hat
       obtain ⟨zs, hzs, hzl⟩ : ∃ zs, List.replicate (wrap64 ((l.length : Int) + 4)).toNat (0 : Int) = zs ∧ zs.length = l.length + 4 := ⟨_, rfl, by rw [List.length_replicate, HN.out]; omega⟩
       rw [hzs] at ho
       obtain ⟨g, cap, rfl⟩ := Go.Proofs.YtiiolhnpnlmkjaaDoor.Math.R_shape ho hat
       have HO := Aside0.mk ho
       have HB := Aside0.mk hb
       have HZ := Aside0.mk hzs
       have HZL := Aside0.mk hzl
       clear ho hb hg hat hzs hzl)
    | ((with_reducible refine gate_builtin (b := .copy) (xs := #[.tmp 18, .tmp 19]) rfl ?_); refine Go.Proofs.YtiiolhnpnlmkjaaDoor.Math.R_copy (w0 := w) (base := w.heap.size) 0 rfl (.tmp 18) (.tmp 19) 22 rfl Tryd.underlying22 (e := 5) ?sz zs l A0 l.length c0 rfl rfl HO.out (Kd.C_below HR0.out HB.out) HB.out ?_; (case sz => kernel_rfl)
       intro w2 ho hb hg
       rw [show min l.length zs.length = l.length from by rw [HZL.out]; omega]
       have HP := Aside0.mk ho
       have HB2 := Aside0.mk hb
       clear ho hb hg))
  have hb0 := HL.out
  have hzl := HZL.out
  obtain ⟨ys, hys⟩ : ∃ ys, l.take zs.length ++ zs.drop l.length = ys := ⟨_, rfl⟩
  have HY := Aside0.mk hys
  have hp := HP.out
  rw [hys, hzl] at hp
  clear HP HO HB HZ hys
  have HP0 := Aside0.mk hp
  clear hp
  obtain ⟨L, hL⟩ : ∃ L : Int, (l.length : Int) = L := ⟨_, rfl⟩
  have q0 : wrap64 (L + 0) = L := by unfold wrap64; omega
  have q1 : wrap64 (L + 1) = L + 1 := by unfold wrap64; omega
  have q2 : wrap64 (L + 2) = L + 2 := by unfold wrap64; omega
  have q3 : wrap64 (L + 3) = L + 3 := by unfold wrap64; omega
  cases le
  · refine wp_loop_rounds 5 ?_
    rw [rounds_succ]
    obtain ⟨hy, hz⟩ := Kd.R_celln (0 : Int) HP0.out L (by omega) (by omega)
    have HQ := Aside0.mk (Kd.R_putg HP0.out L (v / 16777216 % 256))
    have HC := Aside0.mk (below_set (v := .int .u8 (v / 16777216 % 256)) (j := L.toNat) HB2.out (Kd.R_base HP0.out g rfl))
    go_wp2_with ((with_reducible refine gate_store (t := 5) (p := 42) rfl ?_); refine octet_put_uint32_put_stop ?_)
    unfold octet_put_uint32_stop
    refine store_event (t := 5) (p := 42) (v := .tmp 41) (w1 := w2.setCell ⟨g, L.toNat, none⟩ (.int .u8 (v / 16777216 % 256))) rfl rfl rfl (by first | (go_simp; done) | (go_simp; rfl)) ?_
    intro w3 hw
    have hq := HQ.out.1; rw [← hw] at hq; have HP1 := Aside0.mk hq; have hc := HC.out; rw [← hw] at hc; have HB3 := Aside0.mk hc; clear hq hc hw hy hz HQ HC HP0 HB2
    go_wp2_with fail
    rw [rounds_succ]
    obtain ⟨hy, hz⟩ := Kd.R_celln (0 : Int) HP1.out (L + 1) (by omega) (by omega)
    have HQ := Aside0.mk (Kd.R_putg HP1.out (L + 1) (v / 65536 % 256))
    have HC := Aside0.mk (below_set (v := .int .u8 (v / 65536 % 256)) (j := (L + 1).toNat) HB3.out (Kd.R_base HP1.out g rfl))
    go_wp2_with ((with_reducible refine gate_store (t := 5) (p := 42) rfl ?_); refine octet_put_uint32_put_stop ?_)
    unfold octet_put_uint32_stop
    refine store_event (t := 5) (p := 42) (v := .tmp 41) (w1 := w3.setCell ⟨g, (L + 1).toNat, none⟩ (.int .u8 (v / 65536 % 256))) rfl rfl rfl (by first | (go_simp; done) | (go_simp; rfl)) ?_
    intro w4 hw
    have hq := HQ.out.1; rw [← hw] at hq; have HP2 := Aside0.mk hq; have hc := HC.out; rw [← hw] at hc; have HB4 := Aside0.mk hc; clear hq hc hw hy hz HQ HC HP1 HB3
    go_wp2_with fail
    rw [rounds_succ]
    obtain ⟨hy, hz⟩ := Kd.R_celln (0 : Int) HP2.out (L + 2) (by omega) (by omega)
    have HQ := Aside0.mk (Kd.R_putg HP2.out (L + 2) (v / 256 % 256))
    have HC := Aside0.mk (below_set (v := .int .u8 (v / 256 % 256)) (j := (L + 2).toNat) HB4.out (Kd.R_base HP2.out g rfl))
    go_wp2_with ((with_reducible refine gate_store (t := 5) (p := 42) rfl ?_); refine octet_put_uint32_put_stop ?_)
    unfold octet_put_uint32_stop
    refine store_event (t := 5) (p := 42) (v := .tmp 41) (w1 := w4.setCell ⟨g, (L + 2).toNat, none⟩ (.int .u8 (v / 256 % 256))) rfl rfl rfl (by first | (go_simp; done) | (go_simp; rfl)) ?_
    intro w5 hw
    have hq := HQ.out.1; rw [← hw] at hq; have HP3 := Aside0.mk hq; have hc := HC.out; rw [← hw] at hc; have HB5 := Aside0.mk hc; clear hq hc hw hy hz HQ HC HP2 HB4
    go_wp2_with fail
    rw [rounds_succ]
    obtain ⟨hy, hz⟩ := Kd.R_celln (0 : Int) HP3.out (L + 3) (by omega) (by omega)
    have HQ := Aside0.mk (Kd.R_putg HP3.out (L + 3) (v % 256))
    have HC := Aside0.mk (below_set (v := .int .u8 (v % 256)) (j := (L + 3).toNat) HB5.out (Kd.R_base HP3.out g rfl))
    go_wp2_with ((with_reducible refine gate_store (t := 5) (p := 42) rfl ?_); refine octet_put_uint32_put_stop ?_)
    unfold octet_put_uint32_stop
    refine store_event (t := 5) (p := 42) (v := .tmp 41) (w1 := w5.setCell ⟨g, (L + 3).toNat, none⟩ (.int .u8 (v % 256))) rfl rfl rfl (by first | (go_simp; done) | (go_simp; rfl)) ?_
    intro w6 hw
    have hq := HQ.out.1; rw [← hw] at hq; have HP4 := Aside0.mk hq; have hc := HC.out; rw [← hw] at hc; have HB6 := Aside0.mk hc; clear hq hc hw hy hz HQ HC HP3 HB5
    go_wp2_with fail
    rw [rounds_succ]
    go_wp2_with fail
    go_ret
    refine ⟨_, rfl, ?_, HB6.out⟩
    have e := HP4.out
    rw [← HY.out, octet_put_uint32.sets l zs L hL hzl, ← hzl] at e
    exact e
  · refine wp_loop_rounds 5 ?_
    rw [rounds_succ]
    obtain ⟨hy, hz⟩ := Kd.R_celln (0 : Int) HP0.out L (by omega) (by omega)
    have HQ := Aside0.mk (Kd.R_putg HP0.out L (v % 256))
    have HC := Aside0.mk (below_set (v := .int .u8 (v % 256)) (j := L.toNat) HB2.out (Kd.R_base HP0.out g rfl))
    go_wp2_with ((with_reducible refine gate_store (t := 5) (p := 42) rfl ?_); refine octet_put_uint32_put_stop ?_)
    unfold octet_put_uint32_stop
    refine store_event (t := 5) (p := 42) (v := .tmp 41) (w1 := w2.setCell ⟨g, L.toNat, none⟩ (.int .u8 (v % 256))) rfl rfl rfl (by first | (go_simp; done) | (go_simp; rfl)) ?_
    intro w3 hw
    have hq := HQ.out.1; rw [← hw] at hq; have HP1 := Aside0.mk hq; have hc := HC.out; rw [← hw] at hc; have HB3 := Aside0.mk hc; clear hq hc hw hy hz HQ HC HP0 HB2
    go_wp2_with fail
    rw [rounds_succ]
    obtain ⟨hy, hz⟩ := Kd.R_celln (0 : Int) HP1.out (L + 1) (by omega) (by omega)
    have HQ := Aside0.mk (Kd.R_putg HP1.out (L + 1) (v / 256 % 256))
    have HC := Aside0.mk (below_set (v := .int .u8 (v / 256 % 256)) (j := (L + 1).toNat) HB3.out (Kd.R_base HP1.out g rfl))
    go_wp2_with ((with_reducible refine gate_store (t := 5) (p := 42) rfl ?_); refine octet_put_uint32_put_stop ?_)
    unfold octet_put_uint32_stop
    refine store_event (t := 5) (p := 42) (v := .tmp 41) (w1 := w3.setCell ⟨g, (L + 1).toNat, none⟩ (.int .u8 (v / 256 % 256))) rfl rfl rfl (by first | (go_simp; done) | (go_simp; rfl)) ?_
    intro w4 hw
    have hq := HQ.out.1; rw [← hw] at hq; have HP2 := Aside0.mk hq; have hc := HC.out; rw [← hw] at hc; have HB4 := Aside0.mk hc; clear hq hc hw hy hz HQ HC HP1 HB3
    go_wp2_with fail
    rw [rounds_succ]
    obtain ⟨hy, hz⟩ := Kd.R_celln (0 : Int) HP2.out (L + 2) (by omega) (by omega)
    have HQ := Aside0.mk (Kd.R_putg HP2.out (L + 2) (v / 65536 % 256))
    have HC := Aside0.mk (below_set (v := .int .u8 (v / 65536 % 256)) (j := (L + 2).toNat) HB4.out (Kd.R_base HP2.out g rfl))
    go_wp2_with ((with_reducible refine gate_store (t := 5) (p := 42) rfl ?_); refine octet_put_uint32_put_stop ?_)
    unfold octet_put_uint32_stop
    refine store_event (t := 5) (p := 42) (v := .tmp 41) (w1 := w4.setCell ⟨g, (L + 2).toNat, none⟩ (.int .u8 (v / 65536 % 256))) rfl rfl rfl (by first | (go_simp; done) | (go_simp; rfl)) ?_
    intro w5 hw
    have hq := HQ.out.1; rw [← hw] at hq; have HP3 := Aside0.mk hq; have hc := HC.out; rw [← hw] at hc; have HB5 := Aside0.mk hc; clear hq hc hw hy hz HQ HC HP2 HB4
    go_wp2_with fail
    rw [rounds_succ]
    obtain ⟨hy, hz⟩ := Kd.R_celln (0 : Int) HP3.out (L + 3) (by omega) (by omega)
    have HQ := Aside0.mk (Kd.R_putg HP3.out (L + 3) (v / 16777216 % 256))
    have HC := Aside0.mk (below_set (v := .int .u8 (v / 16777216 % 256)) (j := (L + 3).toNat) HB5.out (Kd.R_base HP3.out g rfl))
    go_wp2_with ((with_reducible refine gate_store (t := 5) (p := 42) rfl ?_); refine octet_put_uint32_put_stop ?_)
    unfold octet_put_uint32_stop
    refine store_event (t := 5) (p := 42) (v := .tmp 41) (w1 := w5.setCell ⟨g, (L + 3).toNat, none⟩ (.int .u8 (v / 16777216 % 256))) rfl rfl rfl (by first | (go_simp; done) | (go_simp; rfl)) ?_
    intro w6 hw
    have hq := HQ.out.1; rw [← hw] at hq; have HP4 := Aside0.mk hq; have hc := HC.out; rw [← hw] at hc; have HB6 := Aside0.mk hc; clear hq hc hw hy hz HQ HC HP3 HB5
    go_wp2_with fail
    rw [rounds_succ]
    go_wp2_with fail
    go_ret
    refine ⟨_, rfl, ?_, HB6.out⟩
    have e := HP4.out
    rw [← HY.out, octet_put_uint32.sets l zs L hL hzl, ← hzl] at e
    exact e
theorem octet_put_uint32.calls (A0 : Option Addr) (c0 : Nat) (l0 : List Int) (a1 : Int) (a2 : Int) (a3 : Bool) (r : List Int) (w : World) (hr0 : Kd.C (Kd.int .u8) w A0 l0.length l0) (hc0 : l0.length ≤ c0) (h : octet_put_uint32.f l0 a1 a2 a3 = some r) :
    Calls Tryd.prog 51 #[.slice A0 l0.length c0, .int .u32 a1, .int .i64 a2, .bool a3] w fun e w' => ∃ v0_ : Value, e = .returned (v0_) ∧ Kd.R (Kd.int .u8) 5 w' w.heap.size (fun _ => True) v0_ r ∧ Below w.heap.size w w' := by
  unfold octet_put_uint32.f at h
  by_cases c : a2 = 4 ∧ l0.length ≤ 140737488355316
  · rw [if_pos c] at h
    obtain rfl := Option.some.inj h
    obtain ⟨rfl, hl⟩ := c
    exact octet_put_uint32.any A0 c0 l0 a1 a3 w hr0 hc0 hl
  · rw [if_neg c] at h
    exact absurd h (by simp)

def octet_Put32.f (l0 : List Int) (a1 : Int) (a2 : Bool) : Option (List Int) := (octet_put_uint32.f l0 a1 4 a2).bind fun t153 => (some t153)
set_option maxHeartbeats 8000000 in
set_option maxRecDepth 100000 in
theorem octet_Put32.calls (A0 : Option Addr) (c0 : Nat) (l0 : List Int) (a1 : Int) (a2 : Bool) (r : List Int) (w : World) (hr0 : Kd.C (Kd.int .u8) w A0 l0.length l0) (hc0 : l0.length ≤ c0) (h : octet_Put32.f l0 a1 a2 = some r) :
    Calls Tryd.prog 35 #[.slice A0 l0.length c0, .int .u32 a1, .bool a2] w fun e w' => ∃ v0_ : Value, e = .returned (v0_) ∧ Kd.R (Kd.int .u8) 5 w' w.heap.size (fun _ => True) v0_ r ∧ Below w.heap.size w w' := by
  have HR0 := Aside0.mk hr0
  have HC0 := Aside0.mk hc0
  clear hr0 hc0
  have HB := Aside0.mk (Below.refl w.heap.size w)
  have H : ((octet_put_uint32.f l0 a1 4 a2).bind fun t153 => (some t153)) = some r := h
  clear h
  replace H := Option.bind_eq_some_iff.mp H
  obtain ⟨t153, A40, H⟩ := H
  replace H : (some t153) = some r := H
  have A4 := Aside0.mk A40
  clear A40
  obtain rfl := Option.some.inj H
  go_enter Tryd.func35, Tryd.ntmps35
  go_wp2_with (first | ((with_reducible refine gate_callee (f := 51) rfl ?_); refine goesL_ (some 10) rfl rfl Tryd.func51 (by kernel_rfl) rfl #[.slice A0 l0.length c0, .int .u32 a1, .int .i64 4, .bool a2] rfl (by (try simp only [List.map_toArray, List.map_cons, List.map_nil]); first | done | rfl | (simp only [List.length_drop, List.length_take]; rfl)) ?_; (with_reducible refine (octet_put_uint32.calls _ _ l0 a1 4 a2 t153 _ ?side1 ?side2 A4.out).mono ?_); (case side1 => repeat (first | exact HR0.out | (with_reducible refine Kd.C_alloc ?_ _) | (with_reducible refine Kd.C_drewN ?_ _) | (with_reducible refine Kd.C_drew ?_))); (case side2 => exact HC0.out); rintro e w5 ⟨v154, rfl, ho0, hb⟩; refine ⟨_, rfl, ?_⟩; have n0_ := Aside0.mk (Kd.R_lower ho0 (below_size (by repeat (first | (with_reducible first | exact HB.out | apply below_alloc | apply pw_below_drewN | apply below_drew1) | exact HB.out)))); have n1_ := Aside0.mk (below_step (by repeat (first | (with_reducible first | exact HB.out | apply below_alloc | apply pw_below_drewN | apply below_drew1) | exact HB.out)) hb); clear HB; have HO155 := n0_; have HB := n1_; clear n0_ n1_; (try clear hb); (try clear hb2); (try clear hk); (try clear hi); (try clear ho0)))
  go_ret
  exact ⟨_, by first | rfl | (simp [errW_none, errW_some] <;> rfl) | (simp [*, errW_none, errW_some] <;> rfl), by (with_reducible repeat (first | apply Kd.R_alloc | apply Kd.R_drewN | apply Kd.R_drew)); exact HO155.out, by repeat (first | (with_reducible first | exact HB.out | apply below_alloc | apply pw_below_drewN | apply below_drew1) | exact HB.out)⟩

-- NOT PRINTED: function 73 (wkb_printer_word)

def octet_put_uint64.out (l : List Int) (v : Int) (le : Bool) : List Int := if le = true then l ++ [v % 256, v / 256 % 256, v / 65536 % 256, v / 16777216 % 256, v / 4294967296 % 256, v / 1099511627776 % 256, v / 281474976710656 % 256, v / 72057594037927936 % 256] else l ++ [v / 72057594037927936 % 256, v / 281474976710656 % 256, v / 1099511627776 % 256, v / 4294967296 % 256, v / 16777216 % 256, v / 65536 % 256, v / 256 % 256, v % 256]
def octet_put_uint64.f (l0 : List Int) (a1 : Int) (a2 : Int) (a3 : Bool) : Option (List Int) := if a2 = 8 ∧ l0.length ≤ 140737488355312 then some (octet_put_uint64.out l0 a1 a3) else none
theorem octet_put_uint64.sets (l zs : List Int) (L : Int) (hL : (l.length : Int) = L) (hz : zs.length = l.length + 8) (x0 x1 x2 x3 x4 x5 x6 x7 : Int) : (((((((((l.take zs.length ++ zs.drop l.length).set L.toNat x0).set (L + 1).toNat x1).set (L + 2).toNat x2).set (L + 3).toNat x3).set (L + 4).toNat x4).set (L + 5).toNat x5).set (L + 6).toNat x6).set (L + 7).toNat x7) = l ++ [x0, x1, x2, x3, x4, x5, x6, x7] := by
  subst hL
  have hd : (zs.drop l.length).length = 8 := by rw [List.length_drop]; omega
  obtain ⟨ws, hw⟩ : ∃ ws, zs.drop l.length = ws := ⟨_, rfl⟩
  rw [hw] at hd ⊢
  rw [List.take_of_length_le (by omega)]
  obtain ⟨y0, y1, y2, y3, y4, y5, y6, y7, rfl⟩ : ∃ y0 y1 y2 y3 y4 y5 y6 y7, ws = [y0, y1, y2, y3, y4, y5, y6, y7] := by
    match ws, hd with
    | [y0, y1, y2, y3, y4, y5, y6, y7], _ => exact ⟨y0, y1, y2, y3, y4, y5, y6, y7, rfl⟩
  rw [show ((l.length : Int)).toNat = l.length + 0 from by omega, List.set_append_right _ _ (by omega), Nat.add_sub_cancel_left]
  rw [show ((l.length : Int) + 1).toNat = l.length + 1 from by omega, List.set_append_right _ _ (by omega), Nat.add_sub_cancel_left]
  rw [show ((l.length : Int) + 2).toNat = l.length + 2 from by omega, List.set_append_right _ _ (by omega), Nat.add_sub_cancel_left]
  rw [show ((l.length : Int) + 3).toNat = l.length + 3 from by omega, List.set_append_right _ _ (by omega), Nat.add_sub_cancel_left]
  rw [show ((l.length : Int) + 4).toNat = l.length + 4 from by omega, List.set_append_right _ _ (by omega), Nat.add_sub_cancel_left]
  rw [show ((l.length : Int) + 5).toNat = l.length + 5 from by omega, List.set_append_right _ _ (by omega), Nat.add_sub_cancel_left]
  rw [show ((l.length : Int) + 6).toNat = l.length + 6 from by omega, List.set_append_right _ _ (by omega), Nat.add_sub_cancel_left]
  rw [show ((l.length : Int) + 7).toNat = l.length + 7 from by omega, List.set_append_right _ _ (by omega), Nat.add_sub_cancel_left]
  rfl
def octet_put_uint64_stop (p : Prop) : Prop := p
theorem octet_put_uint64_put_stop {p : Prop} (h : octet_put_uint64_stop p) : p := h
set_option maxHeartbeats 4000000 in
set_option maxRecDepth 100000 in
theorem octet_put_uint64.any (A0 : Option Addr) (c0 : Nat) (l : List Int) (v : Int) (le : Bool) (w : World) (hr0 : Kd.C (Kd.int .u8) w A0 l.length l) (hc0 : l.length ≤ c0) (hl : l.length ≤ 140737488355312) :
    Calls Tryd.prog 52 #[.slice A0 l.length c0, .int .u64 v, .int .i64 8, .bool le] w fun e w' => ∃ v0_ : Value, e = .returned (v0_) ∧ Kd.R (Kd.int .u8) 5 w' w.heap.size (fun _ => True) v0_ (octet_put_uint64.out l v le) ∧ Below w.heap.size w w' := by
  have HR0 := Aside0.mk hr0
  have HC0 := Aside0.mk hc0
  have HL := Aside0.mk hl
  have hn : wrap64 ((l.length : Int) + 8) = (l.length : Int) + 8 := by unfold wrap64; omega
  have HN := Aside0.mk hn
  clear hr0 hc0 hl hn
  go_enter Tryd.func52, Tryd.ntmps52
  go_wp2_with (first
    | ((with_reducible refine gate_dst (N := 17) rfl ?_); refine Kd.R_make (Kd.int .u8) (w0 := w) w.heap.size 5 rfl (N := 17) rfl 22 _ _ rfl (wrap64 ((l.length : Int) + 8)) rfl rfl Tryd.underlying22 (.int .u8 0) 1 info5 rfl (by decide) (by omega) 0 (ok := fun _ => True) (okp := fun _ => False) rfl (fun _ h => h.elim) True.intro (by have := HN.out; omega) ?aL (Below.refl _ _) (Nat.le_refl _) ?_; (case aL => have := HL.out; have := HN.out; omega)
       intro v1 w1 ho hb hg hat
       obtain ⟨zs, hzs, hzl⟩ : ∃ zs, List.replicate (wrap64 ((l.length : Int) + 8)).toNat (0 : Int) = zs ∧ zs.length = l.length + 8 := ⟨_, rfl, by rw [List.length_replicate, HN.out]; omega⟩
       rw [hzs] at ho
       obtain ⟨g, cap, rfl⟩ := Go.Proofs.YtiiolhnpnlmkjaaDoor.Math.R_shape ho hat
       have HO := Aside0.mk ho
       have HB := Aside0.mk hb
       have HZ := Aside0.mk hzs
       have HZL := Aside0.mk hzl
       clear ho hb hg hat hzs hzl)
    | ((with_reducible refine gate_builtin (b := .copy) (xs := #[.tmp 18, .tmp 19]) rfl ?_); refine Go.Proofs.YtiiolhnpnlmkjaaDoor.Math.R_copy (w0 := w) (base := w.heap.size) 0 rfl (.tmp 18) (.tmp 19) 22 rfl Tryd.underlying22 (e := 5) ?sz zs l A0 l.length c0 rfl rfl HO.out (Kd.C_below HR0.out HB.out) HB.out ?_; (case sz => kernel_rfl)
       intro w2 ho hb hg
       rw [show min l.length zs.length = l.length from by rw [HZL.out]; omega]
       have HP := Aside0.mk ho
       have HB2 := Aside0.mk hb
       clear ho hb hg))
  have hb0 := HL.out
  have hzl := HZL.out
  obtain ⟨ys, hys⟩ : ∃ ys, l.take zs.length ++ zs.drop l.length = ys := ⟨_, rfl⟩
  have HY := Aside0.mk hys
  have hp := HP.out
  rw [hys, hzl] at hp
  clear HP HO HB HZ hys
  have HP0 := Aside0.mk hp
  clear hp
  obtain ⟨L, hL⟩ : ∃ L : Int, (l.length : Int) = L := ⟨_, rfl⟩
  have q0 : wrap64 (L + 0) = L := by unfold wrap64; omega
  have q1 : wrap64 (L + 1) = L + 1 := by unfold wrap64; omega
  have q2 : wrap64 (L + 2) = L + 2 := by unfold wrap64; omega
  have q3 : wrap64 (L + 3) = L + 3 := by unfold wrap64; omega
  have q4 : wrap64 (L + 4) = L + 4 := by unfold wrap64; omega
  have q5 : wrap64 (L + 5) = L + 5 := by unfold wrap64; omega
  have q6 : wrap64 (L + 6) = L + 6 := by unfold wrap64; omega
  have q7 : wrap64 (L + 7) = L + 7 := by unfold wrap64; omega
  cases le
  · refine wp_loop_rounds 9 ?_
    rw [rounds_succ]
    obtain ⟨hy, hz⟩ := Kd.R_celln (0 : Int) HP0.out L (by omega) (by omega)
    have HQ := Aside0.mk (Kd.R_putg HP0.out L (v / 72057594037927936 % 256))
    have HC := Aside0.mk (below_set (v := .int .u8 (v / 72057594037927936 % 256)) (j := L.toNat) HB2.out (Kd.R_base HP0.out g rfl))
    go_wp2_with ((with_reducible refine gate_store (t := 5) (p := 42) rfl ?_); refine octet_put_uint64_put_stop ?_)
    unfold octet_put_uint64_stop
    refine store_event (t := 5) (p := 42) (v := .tmp 41) (w1 := w2.setCell ⟨g, L.toNat, none⟩ (.int .u8 (v / 72057594037927936 % 256))) rfl rfl rfl (by first | (go_simp; done) | (go_simp; rfl)) ?_
    intro w3 hw
    have hq := HQ.out.1; rw [← hw] at hq; have HP1 := Aside0.mk hq; have hc := HC.out; rw [← hw] at hc; have HB3 := Aside0.mk hc; clear hq hc hw hy hz HQ HC HP0 HB2
    go_wp2_with fail
    rw [rounds_succ]
    obtain ⟨hy, hz⟩ := Kd.R_celln (0 : Int) HP1.out (L + 1) (by omega) (by omega)
    have HQ := Aside0.mk (Kd.R_putg HP1.out (L + 1) (v / 281474976710656 % 256))
    have HC := Aside0.mk (below_set (v := .int .u8 (v / 281474976710656 % 256)) (j := (L + 1).toNat) HB3.out (Kd.R_base HP1.out g rfl))
    go_wp2_with ((with_reducible refine gate_store (t := 5) (p := 42) rfl ?_); refine octet_put_uint64_put_stop ?_)
    unfold octet_put_uint64_stop
    refine store_event (t := 5) (p := 42) (v := .tmp 41) (w1 := w3.setCell ⟨g, (L + 1).toNat, none⟩ (.int .u8 (v / 281474976710656 % 256))) rfl rfl rfl (by first | (go_simp; done) | (go_simp; rfl)) ?_
    intro w4 hw
    have hq := HQ.out.1; rw [← hw] at hq; have HP2 := Aside0.mk hq; have hc := HC.out; rw [← hw] at hc; have HB4 := Aside0.mk hc; clear hq hc hw hy hz HQ HC HP1 HB3
    go_wp2_with fail
    rw [rounds_succ]
    obtain ⟨hy, hz⟩ := Kd.R_celln (0 : Int) HP2.out (L + 2) (by omega) (by omega)
    have HQ := Aside0.mk (Kd.R_putg HP2.out (L + 2) (v / 1099511627776 % 256))
    have HC := Aside0.mk (below_set (v := .int .u8 (v / 1099511627776 % 256)) (j := (L + 2).toNat) HB4.out (Kd.R_base HP2.out g rfl))
    go_wp2_with ((with_reducible refine gate_store (t := 5) (p := 42) rfl ?_); refine octet_put_uint64_put_stop ?_)
    unfold octet_put_uint64_stop
    refine store_event (t := 5) (p := 42) (v := .tmp 41) (w1 := w4.setCell ⟨g, (L + 2).toNat, none⟩ (.int .u8 (v / 1099511627776 % 256))) rfl rfl rfl (by first | (go_simp; done) | (go_simp; rfl)) ?_
    intro w5 hw
    have hq := HQ.out.1; rw [← hw] at hq; have HP3 := Aside0.mk hq; have hc := HC.out; rw [← hw] at hc; have HB5 := Aside0.mk hc; clear hq hc hw hy hz HQ HC HP2 HB4
    go_wp2_with fail
    rw [rounds_succ]
    obtain ⟨hy, hz⟩ := Kd.R_celln (0 : Int) HP3.out (L + 3) (by omega) (by omega)
    have HQ := Aside0.mk (Kd.R_putg HP3.out (L + 3) (v / 4294967296 % 256))
    have HC := Aside0.mk (below_set (v := .int .u8 (v / 4294967296 % 256)) (j := (L + 3).toNat) HB5.out (Kd.R_base HP3.out g rfl))
    go_wp2_with ((with_reducible refine gate_store (t := 5) (p := 42) rfl ?_); refine octet_put_uint64_put_stop ?_)
    unfold octet_put_uint64_stop
    refine store_event (t := 5) (p := 42) (v := .tmp 41) (w1 := w5.setCell ⟨g, (L + 3).toNat, none⟩ (.int .u8 (v / 4294967296 % 256))) rfl rfl rfl (by first | (go_simp; done) | (go_simp; rfl)) ?_
    intro w6 hw
    have hq := HQ.out.1; rw [← hw] at hq; have HP4 := Aside0.mk hq; have hc := HC.out; rw [← hw] at hc; have HB6 := Aside0.mk hc; clear hq hc hw hy hz HQ HC HP3 HB5
    go_wp2_with fail
    rw [rounds_succ]
    obtain ⟨hy, hz⟩ := Kd.R_celln (0 : Int) HP4.out (L + 4) (by omega) (by omega)
    have HQ := Aside0.mk (Kd.R_putg HP4.out (L + 4) (v / 16777216 % 256))
    have HC := Aside0.mk (below_set (v := .int .u8 (v / 16777216 % 256)) (j := (L + 4).toNat) HB6.out (Kd.R_base HP4.out g rfl))
    go_wp2_with ((with_reducible refine gate_store (t := 5) (p := 42) rfl ?_); refine octet_put_uint64_put_stop ?_)
    unfold octet_put_uint64_stop
    refine store_event (t := 5) (p := 42) (v := .tmp 41) (w1 := w6.setCell ⟨g, (L + 4).toNat, none⟩ (.int .u8 (v / 16777216 % 256))) rfl rfl rfl (by first | (go_simp; done) | (go_simp; rfl)) ?_
    intro w7 hw
    have hq := HQ.out.1; rw [← hw] at hq; have HP5 := Aside0.mk hq; have hc := HC.out; rw [← hw] at hc; have HB7 := Aside0.mk hc; clear hq hc hw hy hz HQ HC HP4 HB6
    go_wp2_with fail
    rw [rounds_succ]
    obtain ⟨hy, hz⟩ := Kd.R_celln (0 : Int) HP5.out (L + 5) (by omega) (by omega)
    have HQ := Aside0.mk (Kd.R_putg HP5.out (L + 5) (v / 65536 % 256))
    have HC := Aside0.mk (below_set (v := .int .u8 (v / 65536 % 256)) (j := (L + 5).toNat) HB7.out (Kd.R_base HP5.out g rfl))
    go_wp2_with ((with_reducible refine gate_store (t := 5) (p := 42) rfl ?_); refine octet_put_uint64_put_stop ?_)
    unfold octet_put_uint64_stop
    refine store_event (t := 5) (p := 42) (v := .tmp 41) (w1 := w7.setCell ⟨g, (L + 5).toNat, none⟩ (.int .u8 (v / 65536 % 256))) rfl rfl rfl (by first | (go_simp; done) | (go_simp; rfl)) ?_
    intro w8 hw
    have hq := HQ.out.1; rw [← hw] at hq; have HP6 := Aside0.mk hq; have hc := HC.out; rw [← hw] at hc; have HB8 := Aside0.mk hc; clear hq hc hw hy hz HQ HC HP5 HB7
    go_wp2_with fail
    rw [rounds_succ]
    obtain ⟨hy, hz⟩ := Kd.R_celln (0 : Int) HP6.out (L + 6) (by omega) (by omega)
    have HQ := Aside0.mk (Kd.R_putg HP6.out (L + 6) (v / 256 % 256))
    have HC := Aside0.mk (below_set (v := .int .u8 (v / 256 % 256)) (j := (L + 6).toNat) HB8.out (Kd.R_base HP6.out g rfl))
    go_wp2_with ((with_reducible refine gate_store (t := 5) (p := 42) rfl ?_); refine octet_put_uint64_put_stop ?_)
    unfold octet_put_uint64_stop
    refine store_event (t := 5) (p := 42) (v := .tmp 41) (w1 := w8.setCell ⟨g, (L + 6).toNat, none⟩ (.int .u8 (v / 256 % 256))) rfl rfl rfl (by first | (go_simp; done) | (go_simp; rfl)) ?_
    intro w9 hw
    have hq := HQ.out.1; rw [← hw] at hq; have HP7 := Aside0.mk hq; have hc := HC.out; rw [← hw] at hc; have HB9 := Aside0.mk hc; clear hq hc hw hy hz HQ HC HP6 HB8
    go_wp2_with fail
    rw [rounds_succ]
    obtain ⟨hy, hz⟩ := Kd.R_celln (0 : Int) HP7.out (L + 7) (by omega) (by omega)
    have HQ := Aside0.mk (Kd.R_putg HP7.out (L + 7) (v % 256))
    have HC := Aside0.mk (below_set (v := .int .u8 (v % 256)) (j := (L + 7).toNat) HB9.out (Kd.R_base HP7.out g rfl))
    go_wp2_with ((with_reducible refine gate_store (t := 5) (p := 42) rfl ?_); refine octet_put_uint64_put_stop ?_)
    unfold octet_put_uint64_stop
    refine store_event (t := 5) (p := 42) (v := .tmp 41) (w1 := w9.setCell ⟨g, (L + 7).toNat, none⟩ (.int .u8 (v % 256))) rfl rfl rfl (by first | (go_simp; done) | (go_simp; rfl)) ?_
    intro w10 hw
    have hq := HQ.out.1; rw [← hw] at hq; have HP8 := Aside0.mk hq; have hc := HC.out; rw [← hw] at hc; have HB10 := Aside0.mk hc; clear hq hc hw hy hz HQ HC HP7 HB9
    go_wp2_with fail
    rw [rounds_succ]
    go_wp2_with fail
    go_ret
    refine ⟨_, rfl, ?_, HB10.out⟩
    have e := HP8.out
    rw [← HY.out, octet_put_uint64.sets l zs L hL hzl, ← hzl] at e
    exact e
  · refine wp_loop_rounds 9 ?_
    rw [rounds_succ]
    obtain ⟨hy, hz⟩ := Kd.R_celln (0 : Int) HP0.out L (by omega) (by omega)
    have HQ := Aside0.mk (Kd.R_putg HP0.out L (v % 256))
    have HC := Aside0.mk (below_set (v := .int .u8 (v % 256)) (j := L.toNat) HB2.out (Kd.R_base HP0.out g rfl))
    go_wp2_with ((with_reducible refine gate_store (t := 5) (p := 42) rfl ?_); refine octet_put_uint64_put_stop ?_)
    unfold octet_put_uint64_stop
    refine store_event (t := 5) (p := 42) (v := .tmp 41) (w1 := w2.setCell ⟨g, L.toNat, none⟩ (.int .u8 (v % 256))) rfl rfl rfl (by first | (go_simp; done) | (go_simp; rfl)) ?_
    intro w3 hw
    have hq := HQ.out.1; rw [← hw] at hq; have HP1 := Aside0.mk hq; have hc := HC.out; rw [← hw] at hc; have HB3 := Aside0.mk hc; clear hq hc hw hy hz HQ HC HP0 HB2
    go_wp2_with fail
    rw [rounds_succ]
    obtain ⟨hy, hz⟩ := Kd.R_celln (0 : Int) HP1.out (L + 1) (by omega) (by omega)
    have HQ := Aside0.mk (Kd.R_putg HP1.out (L + 1) (v / 256 % 256))
    have HC := Aside0.mk (below_set (v := .int .u8 (v / 256 % 256)) (j := (L + 1).toNat) HB3.out (Kd.R_base HP1.out g rfl))
    go_wp2_with ((with_reducible refine gate_store (t := 5) (p := 42) rfl ?_); refine octet_put_uint64_put_stop ?_)
    unfold octet_put_uint64_stop
    refine store_event (t := 5) (p := 42) (v := .tmp 41) (w1 := w3.setCell ⟨g, (L + 1).toNat, none⟩ (.int .u8 (v / 256 % 256))) rfl rfl rfl (by first | (go_simp; done) | (go_simp; rfl)) ?_
    intro w4 hw
    have hq := HQ.out.1; rw [← hw] at hq; have HP2 := Aside0.mk hq; have hc := HC.out; rw [← hw] at hc; have HB4 := Aside0.mk hc; clear hq hc hw hy hz HQ HC HP1 HB3
    go_wp2_with fail
    rw [rounds_succ]
    obtain ⟨hy, hz⟩ := Kd.R_celln (0 : Int) HP2.out (L + 2) (by omega) (by omega)
    have HQ := Aside0.mk (Kd.R_putg HP2.out (L + 2) (v / 65536 % 256))
    have HC := Aside0.mk (below_set (v := .int .u8 (v / 65536 % 256)) (j := (L + 2).toNat) HB4.out (Kd.R_base HP2.out g rfl))
    go_wp2_with ((with_reducible refine gate_store (t := 5) (p := 42) rfl ?_); refine octet_put_uint64_put_stop ?_)
    unfold octet_put_uint64_stop
    refine store_event (t := 5) (p := 42) (v := .tmp 41) (w1 := w4.setCell ⟨g, (L + 2).toNat, none⟩ (.int .u8 (v / 65536 % 256))) rfl rfl rfl (by first | (go_simp; done) | (go_simp; rfl)) ?_
    intro w5 hw
    have hq := HQ.out.1; rw [← hw] at hq; have HP3 := Aside0.mk hq; have hc := HC.out; rw [← hw] at hc; have HB5 := Aside0.mk hc; clear hq hc hw hy hz HQ HC HP2 HB4
    go_wp2_with fail
    rw [rounds_succ]
    obtain ⟨hy, hz⟩ := Kd.R_celln (0 : Int) HP3.out (L + 3) (by omega) (by omega)
    have HQ := Aside0.mk (Kd.R_putg HP3.out (L + 3) (v / 16777216 % 256))
    have HC := Aside0.mk (below_set (v := .int .u8 (v / 16777216 % 256)) (j := (L + 3).toNat) HB5.out (Kd.R_base HP3.out g rfl))
    go_wp2_with ((with_reducible refine gate_store (t := 5) (p := 42) rfl ?_); refine octet_put_uint64_put_stop ?_)
    unfold octet_put_uint64_stop
    refine store_event (t := 5) (p := 42) (v := .tmp 41) (w1 := w5.setCell ⟨g, (L + 3).toNat, none⟩ (.int .u8 (v / 16777216 % 256))) rfl rfl rfl (by first | (go_simp; done) | (go_simp; rfl)) ?_
    intro w6 hw
    have hq := HQ.out.1; rw [← hw] at hq; have HP4 := Aside0.mk hq; have hc := HC.out; rw [← hw] at hc; have HB6 := Aside0.mk hc; clear hq hc hw hy hz HQ HC HP3 HB5
    go_wp2_with fail
    rw [rounds_succ]
    obtain ⟨hy, hz⟩ := Kd.R_celln (0 : Int) HP4.out (L + 4) (by omega) (by omega)
    have HQ := Aside0.mk (Kd.R_putg HP4.out (L + 4) (v / 4294967296 % 256))
    have HC := Aside0.mk (below_set (v := .int .u8 (v / 4294967296 % 256)) (j := (L + 4).toNat) HB6.out (Kd.R_base HP4.out g rfl))
    go_wp2_with ((with_reducible refine gate_store (t := 5) (p := 42) rfl ?_); refine octet_put_uint64_put_stop ?_)
    unfold octet_put_uint64_stop
    refine store_event (t := 5) (p := 42) (v := .tmp 41) (w1 := w6.setCell ⟨g, (L + 4).toNat, none⟩ (.int .u8 (v / 4294967296 % 256))) rfl rfl rfl (by first | (go_simp; done) | (go_simp; rfl)) ?_
    intro w7 hw
    have hq := HQ.out.1; rw [← hw] at hq; have HP5 := Aside0.mk hq; have hc := HC.out; rw [← hw] at hc; have HB7 := Aside0.mk hc; clear hq hc hw hy hz HQ HC HP4 HB6
    go_wp2_with fail
    rw [rounds_succ]
    obtain ⟨hy, hz⟩ := Kd.R_celln (0 : Int) HP5.out (L + 5) (by omega) (by omega)
    have HQ := Aside0.mk (Kd.R_putg HP5.out (L + 5) (v / 1099511627776 % 256))
    have HC := Aside0.mk (below_set (v := .int .u8 (v / 1099511627776 % 256)) (j := (L + 5).toNat) HB7.out (Kd.R_base HP5.out g rfl))
    go_wp2_with ((with_reducible refine gate_store (t := 5) (p := 42) rfl ?_); refine octet_put_uint64_put_stop ?_)
    unfold octet_put_uint64_stop
    refine store_event (t := 5) (p := 42) (v := .tmp 41) (w1 := w7.setCell ⟨g, (L + 5).toNat, none⟩ (.int .u8 (v / 1099511627776 % 256))) rfl rfl rfl (by first | (go_simp; done) | (go_simp; rfl)) ?_
    intro w8 hw
    have hq := HQ.out.1; rw [← hw] at hq; have HP6 := Aside0.mk hq; have hc := HC.out; rw [← hw] at hc; have HB8 := Aside0.mk hc; clear hq hc hw hy hz HQ HC HP5 HB7
    go_wp2_with fail
    rw [rounds_succ]
    obtain ⟨hy, hz⟩ := Kd.R_celln (0 : Int) HP6.out (L + 6) (by omega) (by omega)
    have HQ := Aside0.mk (Kd.R_putg HP6.out (L + 6) (v / 281474976710656 % 256))
    have HC := Aside0.mk (below_set (v := .int .u8 (v / 281474976710656 % 256)) (j := (L + 6).toNat) HB8.out (Kd.R_base HP6.out g rfl))
    go_wp2_with ((with_reducible refine gate_store (t := 5) (p := 42) rfl ?_); refine octet_put_uint64_put_stop ?_)
    unfold octet_put_uint64_stop
    refine store_event (t := 5) (p := 42) (v := .tmp 41) (w1 := w8.setCell ⟨g, (L + 6).toNat, none⟩ (.int .u8 (v / 281474976710656 % 256))) rfl rfl rfl (by first | (go_simp; done) | (go_simp; rfl)) ?_
    intro w9 hw
    have hq := HQ.out.1; rw [← hw] at hq; have HP7 := Aside0.mk hq; have hc := HC.out; rw [← hw] at hc; have HB9 := Aside0.mk hc; clear hq hc hw hy hz HQ HC HP6 HB8
    go_wp2_with fail
    rw [rounds_succ]
    obtain ⟨hy, hz⟩ := Kd.R_celln (0 : Int) HP7.out (L + 7) (by omega) (by omega)
    have HQ := Aside0.mk (Kd.R_putg HP7.out (L + 7) (v / 72057594037927936 % 256))
    have HC := Aside0.mk (below_set (v := .int .u8 (v / 72057594037927936 % 256)) (j := (L + 7).toNat) HB9.out (Kd.R_base HP7.out g rfl))
    go_wp2_with ((with_reducible refine gate_store (t := 5) (p := 42) rfl ?_); refine octet_put_uint64_put_stop ?_)
    unfold octet_put_uint64_stop
    refine store_event (t := 5) (p := 42) (v := .tmp 41) (w1 := w9.setCell ⟨g, (L + 7).toNat, none⟩ (.int .u8 (v / 72057594037927936 % 256))) rfl rfl rfl (by first | (go_simp; done) | (go_simp; rfl)) ?_
    intro w10 hw
    have hq := HQ.out.1; rw [← hw] at hq; have HP8 := Aside0.mk hq; have hc := HC.out; rw [← hw] at hc; have HB10 := Aside0.mk hc; clear hq hc hw hy hz HQ HC HP7 HB9
    go_wp2_with fail
    rw [rounds_succ]
    go_wp2_with fail
    go_ret
    refine ⟨_, rfl, ?_, HB10.out⟩
    have e := HP8.out
    rw [← HY.out, octet_put_uint64.sets l zs L hL hzl, ← hzl] at e
    exact e
theorem octet_put_uint64.calls (A0 : Option Addr) (c0 : Nat) (l0 : List Int) (a1 : Int) (a2 : Int) (a3 : Bool) (r : List Int) (w : World) (hr0 : Kd.C (Kd.int .u8) w A0 l0.length l0) (hc0 : l0.length ≤ c0) (h : octet_put_uint64.f l0 a1 a2 a3 = some r) :
    Calls Tryd.prog 52 #[.slice A0 l0.length c0, .int .u64 a1, .int .i64 a2, .bool a3] w fun e w' => ∃ v0_ : Value, e = .returned (v0_) ∧ Kd.R (Kd.int .u8) 5 w' w.heap.size (fun _ => True) v0_ r ∧ Below w.heap.size w w' := by
  unfold octet_put_uint64.f at h
  by_cases c : a2 = 8 ∧ l0.length ≤ 140737488355312
  · rw [if_pos c] at h
    obtain rfl := Option.some.inj h
    obtain ⟨rfl, hl⟩ := c
    exact octet_put_uint64.any A0 c0 l0 a1 a3 w hr0 hc0 hl
  · rw [if_neg c] at h
    exact absurd h (by simp)

def octet_Put64.f (l0 : List Int) (a1 : Int) (a2 : Bool) : Option (List Int) := (octet_put_uint64.f l0 a1 8 a2).bind fun t159 => (some t159)
set_option maxHeartbeats 8000000 in
set_option maxRecDepth 100000 in
theorem octet_Put64.calls (A0 : Option Addr) (c0 : Nat) (l0 : List Int) (a1 : Int) (a2 : Bool) (r : List Int) (w : World) (hr0 : Kd.C (Kd.int .u8) w A0 l0.length l0) (hc0 : l0.length ≤ c0) (h : octet_Put64.f l0 a1 a2 = some r) :
    Calls Tryd.prog 36 #[.slice A0 l0.length c0, .int .u64 a1, .bool a2] w fun e w' => ∃ v0_ : Value, e = .returned (v0_) ∧ Kd.R (Kd.int .u8) 5 w' w.heap.size (fun _ => True) v0_ r ∧ Below w.heap.size w w' := by
  have HR0 := Aside0.mk hr0
  have HC0 := Aside0.mk hc0
  clear hr0 hc0
  have HB := Aside0.mk (Below.refl w.heap.size w)
  have H : ((octet_put_uint64.f l0 a1 8 a2).bind fun t159 => (some t159)) = some r := h
  clear h
  replace H := Option.bind_eq_some_iff.mp H
  obtain ⟨t159, A40, H⟩ := H
  replace H : (some t159) = some r := H
  have A4 := Aside0.mk A40
  clear A40
  obtain rfl := Option.some.inj H
  go_enter Tryd.func36, Tryd.ntmps36
  go_wp2_with (first | ((with_reducible refine gate_callee (f := 52) rfl ?_); refine goesL_ (some 10) rfl rfl Tryd.func52 (by kernel_rfl) rfl #[.slice A0 l0.length c0, .int .u64 a1, .int .i64 8, .bool a2] rfl (by (try simp only [List.map_toArray, List.map_cons, List.map_nil]); first | done | rfl | (simp only [List.length_drop, List.length_take]; rfl)) ?_; (with_reducible refine (octet_put_uint64.calls _ _ l0 a1 8 a2 t159 _ ?side1 ?side2 A4.out).mono ?_); (case side1 => repeat (first | exact HR0.out | (with_reducible refine Kd.C_alloc ?_ _) | (with_reducible refine Kd.C_drewN ?_ _) | (with_reducible refine Kd.C_drew ?_))); (case side2 => exact HC0.out); rintro e w5 ⟨v160, rfl, ho0, hb⟩; refine ⟨_, rfl, ?_⟩; have n0_ := Aside0.mk (Kd.R_lower ho0 (below_size (by repeat (first | (with_reducible first | exact HB.out | apply below_alloc | apply pw_below_drewN | apply below_drew1) | exact HB.out)))); have n1_ := Aside0.mk (below_step (by repeat (first | (with_reducible first | exact HB.out | apply below_alloc | apply pw_below_drewN | apply below_drew1) | exact HB.out)) hb); clear HB; have HO161 := n0_; have HB := n1_; clear n0_ n1_; (try clear hb); (try clear hb2); (try clear hk); (try clear hi); (try clear ho0)))
  go_ret
  exact ⟨_, by first | rfl | (simp [errW_none, errW_some] <;> rfl) | (simp [*, errW_none, errW_some] <;> rfl), by (with_reducible repeat (first | apply Kd.R_alloc | apply Kd.R_drewN | apply Kd.R_drew)); exact HO161.out, by repeat (first | (with_reducible first | exact HB.out | apply below_alloc | apply pw_below_drewN | apply below_drew1) | exact HB.out)⟩

-- NOT PRINTED: function 74 (wkb_printer_points)

-- NOT PRINTED: function 46 (wkb_printer_geom)

-- NOT PRINTED: function 24 (wkb_Mixed)

-- NOT PRINTED: function 22 (wkb_Print)

end Go.Proofs.YtiiolhnpnlmkjaaDoor.PWkbPrints
namespace Go.Proofs.YtiiolhnpnlmkjaaDoor.Tree
open Go.RowKit Go.Proofs.YtiiolhnpnlmkjaaDoor.PWkbPrints Go.Proofs.YtiiolhnpnlmkjaaDoorW.PrintWords Go.Proofs.YtiiolhnpnlmkjaaDoorW.PrintLast Go.Proofs.YtiiolhnpnlmkjaaDoorW.PrintMore
attribute [local go_sem] Oper.semAt_some max2_int max_two min2_int min_two
abbrev kB : Kd Int := Kd.int .u8
/-- Between two worlds: one block and one row are changed alone. -/
structure Mv (W W' : World) (gp : Nat) (vo vo' : Value) : Prop where
  s : W.heap.size ≤ W'.heap.size
  k : ∀ j, j < W.heap.size → j ≠ gp → some j ≠ vo.ownBlock → W'.heap[j]? = W.heap[j]?
  a : vo'.ownBlock = vo.ownBlock ∨ ∃ b, vo'.ownBlock = some b ∧ W.heap.size ≤ b
theorem Mv.below {W W' : World} (gp : Nat) (vo : Value) (h : Below W.heap.size W W') : Mv W W' gp vo vo := ⟨h.size, fun j hj _ _ => h.block j hj, .inl rfl⟩
theorem Mv.trans {W W' W2 : World} {gp : Nat} {v v' v2 : Value} (h : Mv W W' gp v v') (k : Mv W' W2 gp v' v2) : Mv W W2 gp v v2 := by
  refine ⟨Nat.le_trans h.s k.s, fun j hj hne hr => ?_, ?_⟩
  · refine (k.k j (Nat.lt_of_lt_of_le hj h.s) hne (fun e => ?_)).trans (h.k j hj hne hr)
    rcases h.a with ha | ⟨b, hb, hle⟩
    · exact hr (ha ▸ e)
    · rw [hb] at e
      injection e with e
      omega
  · rcases k.a with ka | ⟨b, hb, hle⟩
    · rcases h.a with ha | ⟨b, hb, hle⟩
      · exact .inl (ka.trans ha)
      · exact .inr ⟨b, ka.trans hb, hle⟩
    · exact .inr ⟨b, hb, Nat.le_trans h.s hle⟩
theorem Mv.keep {W W' : World} {gp : Nat} {v v' : Value} (h : Mv W W' gp v v') {j : Nat} {o : Obj} (hj : W.heap[j]? = some o) (hne : j ≠ gp) (hr : some j ≠ v.ownBlock) : W'.heap[j]? = some o := (h.k j (blk_lt hj) hne hr).trans hj
/-- A writer's state: its row, how many have begun, and the orders, which lie in the world w0 of its beginning. -/
structure Pr (ty : TypeId) (cf : Value → Value → Int → Array Value) (w0 W : World) (gp : Nat) (O : Option Addr) (co : Nat) (os : List Bool) (k : Nat) (vo : Value) (out : List Int) : Prop where
  c : W.heap[gp]? = some (.cells (cf vo (.slice O os.length co) (k : Int)) ty (0, 0))
  r : kB.R 5 W w0.heap.size (fun j => j ≠ gp) vo out
  o : Kd.bool.C w0 O os.length os
  h : w0.heap.size ≤ gp
  K : Below w0.heap.size w0 W
def cfP : Value → Value → Int → Array Value := fun vo vs k => #[vo, vs, .int .i64 k]
section
variable {ty : TypeId} {cf : Value → Value → Int → Array Value} {w0 W W1 : World} {gp co k : Nat} {O : Option Addr} {os : List Bool} {vo : Value} {out : List Int}
theorem Pr.below (h : Pr ty cf w0 W gp O co os k vo out) (hb : Below W.heap.size W W1) : Pr ty cf w0 W1 gp O co os k vo out :=
  ⟨(hb.block gp (blk_lt h.c)).trans h.c, Kd.R_below h.r hb, h.o, h.h, below_step h.K hb⟩
theorem Pr.ne (h : Pr ty cf w0 W gp O co os k vo out) : some gp ≠ vo.ownBlock := Kd.R_away h.r (fun j hj => hj)
/-- The row grows. -/
theorem Pr.grown (h : Pr ty cf w0 W gp O co os k vo out) {vo' : Value} {out' : List Int} (hr : kB.R 5 W1 w0.heap.size (fun _ => True) vo' out') (hg : W.grownBy W1 vo.ownBlock) (ha : vo'.ownBlock = vo.ownBlock ∨ ∃ b, vo'.ownBlock = some b ∧ W.heap.size ≤ b) :
    W1.heap[gp]? = some (.cells (cf vo (.slice O os.length co) (k : Int)) ty (0, 0)) ∧ kB.R 5 W1 w0.heap.size (fun j => j ≠ gp) vo' out' ∧ Below w0.heap.size w0 W1 ∧ W.heap.size ≤ W1.heap.size := by
  refine ⟨blk_grown h.c hg h.ne, Kd.R_mono (Kd.R_tight2 rfl hr) (fun j hj => ?_), h.K.grown hg h.K.size (Kd.R_base h.r), hg.size⟩
  rintro rfl
  rcases ha with ha | ⟨b, hb, hle⟩
  · exact h.ne (hj.1.trans ha)
  · rw [hb] at hj
    have := Option.some.inj hj.1
    have := blk_lt h.c
    omega
end
theorem Mv.set {W : World} {gp : Nat} {vo vo' : Value} (i : Nat) (u : Value) (ha : vo'.ownBlock = vo.ownBlock) : Mv W (W.setCell ⟨gp, i, none⟩ u) gp vo vo' :=
  ⟨((Below.refl 0 W).setCell (p := ⟨gp, i, none⟩) (Nat.zero_le _) u).size, fun j hj hne _ => Below.heap_setCell W ⟨gp, i, none⟩ u j hne, .inl ha⟩
theorem Pr.set {ty : TypeId} {cf : Value → Value → Int → Array Value} {w0 W : World} {gp co k k' : Nat} {O : Option Addr} {os : List Bool} {vo' v1 : Value} {out' : List Int} {i : Nat} {u : Value}
    (hc : W.heap[gp]? = some (.cells (cf v1 (.slice O os.length co) (k : Int)) ty (0, 0))) (hr : kB.R 5 W w0.heap.size (fun j => j ≠ gp) vo' out') (ho : Kd.bool.C w0 O os.length os) (hh : w0.heap.size ≤ gp) (hK : Below w0.heap.size w0 W)
    (hs : (cf v1 (.slice O os.length co) (k : Int)).setIfInBounds i u = cf vo' (.slice O os.length co) (k' : Int)) : Pr ty cf w0 (W.setCell ⟨gp, i, none⟩ u) gp O co os k' vo' out' :=
  ⟨by rw [← hs]; exact blk_set hc i u, Kd.R_far (p := ⟨gp, i, none⟩) hr (fun j hj => hj) u, ho, hh, hK.setCell (p := ⟨gp, i, none⟩) hh u⟩
/-- The order of the k-th. -/
def ordAt (os : List Bool) (k : Nat) : Bool := if os.length = 0 then false else os.getD (min k (os.length - 1)) false
set_option maxRecDepth 100000 in
set_option maxHeartbeats 8000000 in
theorem order_calls (w0 W : World) (gp : Nat) (O : Option Addr) (co : Nat) (os : List Bool) (k : Nat) (vo : Value) (out : List Int) (h : Pr 103 cfP w0 W gp O co os k vo out) (hk : k ≤ 1152921504606846976) (hos : os.length ≤ 1152921504606846976) :
    Calls Tryd.prog 72 #[.pointer (some ⟨gp, 0, none⟩)] W fun e W' => e = .returned (.bool (ordAt os k)) ∧ Pr 103 cfP w0 W' gp O co os (k + 1) vo out ∧ Mv W W' gp vo vo := by
  have HP := Aside0.mk h
  have s0 : W.cell? ⟨gp, 2, none⟩ = some (.int .i64 k) := (blk_cell h.c 2).trans rfl
  have s1 : W.cell? ⟨gp, 1, none⟩ = some (.slice O os.length co) := (blk_cell h.c 1).trans rfl
  have f2 := blk_frozen h.c 2
  clear h
  go_enter Tryd.func72, Tryd.ntmps72
  have hP1 : Pr 103 cfP w0 (W.setCell ⟨gp, 2, none⟩ (.int .i64 ((k : Int) + 1))) gp O co os (k + 1) vo out := Pr.set HP.out.c HP.out.r HP.out.o HP.out.h HP.out.K (by simp [cfP])
  have hM1 : Mv W (W.setCell ⟨gp, 2, none⟩ (.int .i64 ((k : Int) + 1))) gp vo vo := Mv.set 2 _ rfl
  have HP1 := Aside0.mk hP1
  have HM1 := Aside0.mk hM1
  clear hP1 hM1
  by_cases h0 : os.length = 0
  · go_wp2_with fail
    go_ret
    exact ⟨by simp [ordAt, h0], HP1.out, HM1.out⟩
  · have h0' : ((os.length : Int) == 0) = false := beq_eq_false_iff_ne.2 (by omega)
    obtain ⟨j, hj⟩ : ∃ j, j = min k (os.length - 1) := ⟨_, rfl⟩
    have hjl : j < os.length := by omega
    obtain ⟨ad, rfl, hc⟩ := Kd.at_bool HP.out.o (j : Int) (by omega) (by omega)
    have hv : rdOf false os (j : Int) = ordAt os k := by
      unfold ordAt
      rw [if_neg h0, ← hj, rdOf, Int.toNat_natCast]
    rw [hv, Int.toNat_natCast] at hc
    have hc1 := pw_cell_below HP1.out.K hc
    have s1' := (blk_cell HP1.out.c 1)
    simp only [cfP] at s1'
    have hos1 := hos
    rcases Nat.lt_or_ge (os.length - 1) k with hlt | hge
    · have e1 : (os.length : Int) - 1 < (k : Int) := by omega
      have e2 : (os.length : Int) - 1 = (j : Int) := by omega
      have e3 : (j : Int) < (os.length : Int) := by omega
      clear hj
      go_wp2_with fail
      go_quiet (fail)
      go_wp2_with fail
      go_ret
      exact ⟨rfl, HP1.out.below (pw_below_drewN (Below.refl _ _) _), HM1.out.trans (Mv.below gp vo (pw_below_drewN (Below.refl _ _) _))⟩
    · have e1 : ¬ ((os.length : Int) - 1 < (k : Int)) := by omega
      obtain rfl : k = j := by omega
      have e3 : (k : Int) < (os.length : Int) := by omega
      clear hj
      go_wp2_with fail
      go_quiet (fail)
      go_wp2_with fail
      go_ret
      exact ⟨rfl, HP1.out.below (pw_below_drewN (Below.refl _ _) _), HM1.out.trans (Mv.below gp vo (pw_below_drewN (Below.refl _ _) _))⟩
def P32 (v : Int) (le : Bool) : List Int := octet_put_uint32.out [] v le
def P64 (l : List Int) (v : Int) (le : Bool) : List Int := octet_put_uint64.out l v le
theorem P32_len (v : Int) (le : Bool) : (P32 v le).length = 4 := by unfold P32 octet_put_uint32.out; split <;> simp
theorem P64_len (l : List Int) (v : Int) (le : Bool) : (P64 l v le).length = l.length + 8 := by unfold P64 octet_put_uint64.out; split <;> simp
theorem put32_ok (v : Int) (le : Bool) (W : World) : Calls Tryd.prog 35 #[.slice none 0 0, .int .u32 v, .bool le] W fun e W' => ∃ u, e = .returned u ∧ kB.R 5 W' W.heap.size (fun _ => True) u (P32 v le) ∧ Below W.heap.size W W' :=
  octet_Put32.calls none 0 [] v le (P32 v le) W (Kd.C_nil _ _) (Nat.le_refl _) (by unfold octet_Put32.f octet_put_uint32.f; rw [if_pos ⟨rfl, by simp⟩]; rfl)
theorem put64_ok (A : Option Addr) (c : Nat) (l : List Int) (v : Int) (le : Bool) (W : World) (hC : kB.C W A l.length l) (hc : l.length ≤ c) (hl : l.length ≤ 100) : Calls Tryd.prog 36 #[.slice A l.length c, .int .u64 v, .bool le] W fun e W' => ∃ u, e = .returned u ∧ kB.R 5 W' W.heap.size (fun _ => True) u (P64 l v le) ∧ Below W.heap.size W W' :=
  octet_Put64.calls A c l v le (P64 l v le) W hC hc (by unfold octet_Put64.f octet_put_uint64.f; rw [if_pos ⟨rfl, by omega⟩]; rfl)
set_option maxRecDepth 100000 in
set_option maxHeartbeats 8000000 in
theorem word_calls (w0 W : World) (gp : Nat) (O : Option Addr) (co : Nat) (os : List Bool) (k : Nat) (vo : Value) (out : List Int) (x : Int) (le : Bool) (h : Pr 103 cfP w0 W gp O co os k vo out) (hl : out.length ≤ 70368744177664) :
    Calls Tryd.prog 73 #[.pointer (some ⟨gp, 0, none⟩), .int .i64 x, .bool le] W fun e W' => e = .returned (.tuple #[]) ∧ ∃ vo', Pr 103 cfP w0 W' gp O co os k vo' (out ++ P32 (IntKind.u32.wrap x) le) ∧ Mv W W' gp vo vo' := by
  have hmx : Tryd.prog.follows .mixedOrders = true := by kernel_rfl
  go_enter Tryd.func73, Tryd.ntmps73
  refine start_ (n := 13) (S := fun w' => w'.cell? ⟨gp, 0, none⟩ = some vo ∧ True) (ds := [12]) #[false, false, false, false, false, false, false, false, false, false, false, false, false] hmx rfl rfl ⟨(blk_cell (w := W.drew) h.c 0).trans rfl, trivial⟩ (fun hHeld => ?_)
  have h0 := h.below (below_drew (Below.refl _ _))
  have hM0 := Mv.below (W := W) gp vo (below_drew (Below.refl _ _))
  generalize W.drew = Wb at h0 hM0 hHeld ⊢
  (refine pure_ (i := 0) (N := some 6) (v := ?_) (a' := ?_) #[true, false, false, false, false, false, false, false, false, false, false, false, false] rfl rfl (by kernel_rfl) (fun _ _ _ h => h) (Or.inl ⟨by rfl, ?_⟩) ?_ ?_; rotate_left; (focus (intro w'_; go_simp; with_reducible rfl)); rotate_left; (focus (simp only [Act.put, List.setIfInBounds_toArray, List.set_cons_zero, List.set_cons_succ]; rfl)))
  (refine pure_ (i := 1) (N := some 7) (v := ?_) (a' := ?_) #[true, true, false, false, false, false, false, false, false, false, false, false, false] rfl rfl (by kernel_rfl) (fun _ _ _ h => h) (Or.inl ⟨by rfl, ?_⟩) ?_ ?_; rotate_left; (focus (intro w'_; go_simp; with_reducible rfl)); rotate_left; (focus (simp only [Act.put, List.setIfInBounds_toArray, List.set_cons_zero, List.set_cons_succ]; rfl)))
  (refine pure_ (i := 2) (N := some 8) (v := ?_) (a' := ?_) #[true, true, true, false, false, false, false, false, false, false, false, false, false] rfl rfl (by kernel_rfl) (fun _ _ _ h => h) (Or.inl ⟨by rfl, ?_⟩) ?_ ?_; rotate_left; (focus (intro w'_; go_simp; with_reducible rfl)); rotate_left; (focus (simp only [Act.put, List.setIfInBounds_toArray, List.set_cons_zero, List.set_cons_succ]; rfl)))
  (refine pure_ (i := 3) (N := some 9) (v := ?_) (a' := ?_) #[true, true, true, true, false, false, false, false, false, false, false, false, false] rfl rfl (by kernel_rfl) (fun _ _ _ h => h) (Or.inl ⟨by rfl, ?_⟩) ?_ ?_; rotate_left; (focus (intro w'_; go_simp; with_reducible rfl)); rotate_left; (focus (simp only [Act.put, List.setIfInBounds_toArray, List.set_cons_zero, List.set_cons_succ]; rfl)))
  (refine pure_ (i := 5) (N := some 11) (v := ?_) (a' := ?_) #[true, true, true, true, false, true, false, false, false, false, false, false, false] rfl rfl (by kernel_rfl) (fun _ _ _ h => h) (Or.inl ⟨by rfl, ?_⟩) ?_ ?_; rotate_left; (focus (intro w'_; go_simp; with_reducible rfl)); rotate_left; (focus (simp only [Act.put, List.setIfInBounds_toArray, List.set_cons_zero, List.set_cons_succ]; rfl)))
  (refine pure_ (i := 6) (N := some 12) (v := ?_) (a' := ?_) #[true, true, true, true, false, true, true, false, false, false, false, false, false] rfl rfl (by kernel_rfl) (fun _ _ _ h => h) (Or.inl ⟨by rfl, ?_⟩) ?_ ?_; rotate_left; (focus (intro w'_; go_simp; with_reducible rfl)); rotate_left; (focus (simp only [Act.put, List.setIfInBounds_toArray, List.set_cons_zero, List.set_cons_succ]; rfl)))
  (refine pure_ (i := 7) (N := some 13) (v := ?_) (a' := ?_) #[true, true, true, true, false, true, true, true, false, false, false, false, false] rfl rfl (by kernel_rfl) (fun _ _ _ h => h) (Or.inl ⟨by rfl, ?_⟩) ?_ ?_; rotate_left; (focus (intro w'_; go_simp; with_reducible rfl)); rotate_left; (focus (simp only [Act.put, List.setIfInBounds_toArray, List.set_cons_zero, List.set_cons_succ]; rfl)))
  (refine take_ (i := 4) (N := some 10) (v := ?_) (a' := ?_) #[true, true, true, true, true, true, true, true, false, false, false, false, false] rfl rfl (by kernel_rfl) (fun _ _ _ h => h) (Or.inl ⟨by rfl, ?_⟩) hHeld ?_ ?_; rotate_left; (focus (intro w'_ hs_; (repeat obtain ⟨_, hs_⟩ := hs_); go_simp; with_reducible rfl)); rotate_left; (focus (simp only [Act.put, List.setIfInBounds_toArray, List.set_cons_zero, List.set_cons_succ]; rfl)))
  refine one_ (i := 8) (N := some 14) #[true, true, true, true, true, true, true, true, true, false, false, false, false] rfl rfl (by kernel_rfl) (by decide) (fun K hK => ?_)
  refine goes_ Tryd.func35 (by kernel_rfl) rfl #[.slice none 0 0, .int .u32 (IntKind.u32.wrap x), .bool le] (by rfl) rfl rfl (by (try simp only [List.map_toArray, List.map_cons, List.map_nil]); first | done | rfl) ?_
  refine (put32_ok (IntKind.u32.wrap x) le Wb).mono ?_
  rintro e w1 ⟨u1, rfl, hu1, hb1⟩
  obtain ⟨A1, c1, rfl⟩ := Kd.R_slice hu1
  have h1 := h0.below hb1
  have hM1 := hM0.trans (Mv.below gp vo hb1)
  have hu1' := (Kd.R_reads' hu1).2.2
  rw [P32_len] at hu1' ⊢
  refine ⟨_, rfl, hK.out _ _ ⟨(blk_cell h1.c 0).trans rfl, trivial⟩ (fun hHeld2 => ?_)⟩
  clear hK K hHeld hu1 hb1 h0 hM0
  (refine norm_ (a' := ?_) ?_ ?_; rotate_left; focus (show Act.put _ (some 14) _ = _; simp only [Act.put, List.setIfInBounds_toArray, List.set_cons_zero, List.set_cons_succ]; rfl))
  refine one_ (i := 9) (N := some 15) #[true, true, true, true, true, true, true, true, true, true, false, false, false] rfl rfl (by kernel_rfl) (by decide) (fun K hK => ?_)
  refine Kd.R_append_rows_step kB (w0 := w0) w0.heap.size (by rfl) (.tmp 10) (.tmp 14) 22 5 (.int .u8 0) 1 rfl Tryd.underlying22 info5 rfl (by decide) (by omega) vo out (P32 (IntKind.u32.wrap x) le) _ _ _ (fun _ => True) (fun _ => False) rfl rfl ?aO ?aR (fun _ _ h => h) (fun _ h => h.elim) ?aF ?aB ?aS ?aL ?_
  case aO => exact Kd.R_mono h1.r (fun _ _ => trivial)
  case aR => exact hu1'
  case aF => exact fun _ _ => trivial
  case aB => exact h1.K
  case aS => exact h1.K.size
  case aL => omega
  intro v2 w2 ho2 hb2 hg2 hat2
  obtain ⟨A2, c2, rfl⟩ := Kd.R_slice ho2
  obtain ⟨g1, g2, g3, g4⟩ := h1.grown ho2 hg2 hat2
  have hM2 : Mv w1 w2 gp vo _ := ⟨hg2.size, fun j hj _ hr => hg2.block j hj hr, hat2⟩
  refine hK.out _ _ ⟨(blk_cell g1 0).trans rfl, trivial⟩ (fun hHeld3 => ?_)
  clear hK K hHeld2
  (refine norm_ (a' := ?_) ?_ ?_; rotate_left; focus (show Act.put _ (some 15) _ = _; simp only [Act.put, List.setIfInBounds_toArray, List.set_cons_zero, List.set_cons_succ]; rfl))
  (refine pure_ (i := 10) (N := some 16) (v := ?_) (a' := ?_) #[true, true, true, true, true, true, true, true, true, true, true, false, false] rfl rfl (by kernel_rfl) (fun _ _ _ h => h) (Or.inl ⟨by rfl, ?_⟩) ?_ ?_; rotate_left; (focus (intro w'_; go_simp; with_reducible rfl)); rotate_left; (focus (simp only [Act.put, List.setIfInBounds_toArray, List.set_cons_zero, List.set_cons_succ]; rfl)))
  (refine pure_ (i := 11) (N := some 17) (v := ?_) (a' := ?_) #[true, true, true, true, true, true, true, true, true, true, true, true, false] rfl rfl (by kernel_rfl) (fun _ _ _ h => h) (Or.inl ⟨by rfl, ?_⟩) ?_ ?_; rotate_left; (focus (intro w'_; go_simp; with_reducible rfl)); rotate_left; (focus (simp only [Act.put, List.setIfInBounds_toArray, List.set_cons_zero, List.set_cons_succ]; rfl)))
  refine last_ (i := 12) (N := none) #[true, true, true, true, true, true, true, true, true, true, true, true, true] rfl rfl (by kernel_rfl) (by decide) (fun K hK => ?_)
  have hs0 : w2.cell? ⟨gp, 0, none⟩ = some vo := (blk_cell g1 0).trans rfl
  have hf0 := blk_frozen g1 0
  refine skip_ (w1 := ?_) (by rfl) rfl ?_ ?_
  rotate_left
  · go_simp
    rfl
  refine hK.out _ _ ?_
  clear hK K
  refine done_ (by kernel_rfl) ?_
  refine bodyPost_end (results_none rfl _ _ _) rfl ?_
  rw [← List.length_append]
  exact ⟨rfl, .slice A2 (out ++ P32 (IntKind.u32.wrap x) le).length c2, Pr.set g1 g2 h.o h.h g3 (by simp [cfP]), (hM1.trans hM2).trans (Mv.set 0 _ rfl)⟩
/-- Points as bytes. -/
def ptsB (le : Bool) (l : List Pt) : List Int := l.flatMap fun q => P64 (P64 [] q.f0 le) q.f1 le
theorem ptsB_len (le : Bool) (l : List Pt) : (ptsB le l).length = 16 * l.length := by
  induction l with
  | nil => rfl
  | cons q l ih => unfold ptsB at ih ⊢; rw [List.flatMap_cons, List.length_append, ih, P64_len, P64_len]; simp; omega
theorem ptsB_snoc (le : Bool) (l : List Pt) (q : Pt) : ptsB le (l ++ [q]) = ptsB le l ++ P64 (P64 [] q.f0 le) q.f1 le := by unfold ptsB; rw [List.flatMap_append]; simp
set_option maxRecDepth 100000 in
set_option maxHeartbeats 16000000 in
theorem points_calls (w0 W : World) (gp : Nat) (O : Option Addr) (co : Nat) (os : List Bool) (k : Nat) (vo : Value) (out : List Int) (A : Option Addr) (c : Nat) (l : List Pt) (le : Bool) (h : Pr 103 cfP w0 W gp O co os k vo out)
    (hS : ∀ W' v', Below w0.heap.size w0 W' → Mv W W' gp vo v' → kPt.C W' A l.length l) (hl : out.length + 16 * l.length ≤ 70368744177664) :
    Calls Tryd.prog 74 #[.pointer (some ⟨gp, 0, none⟩), .slice A l.length c, .bool le] W fun e W' => e = .returned (.tuple #[]) ∧ ∃ vo', Pr 103 cfP w0 W' gp O co os k vo' (out ++ ptsB le l) ∧ Mv W W' gp vo vo' := by
  have hmx : Tryd.prog.follows .mixedOrders = true := by kernel_rfl
  have HS := Aside0.mk hS
  have HP := Aside0.mk h
  have HG := Aside0.mk h.h
  clear hS h
  go_enter Tryd.func74, Tryd.ntmps74
  go_wp2_with fail
  go_loopg [7, 10] l.length (fun kq x7 ii wr => ∃ (i : Nat) (vi : Value), ii = .int .i64 (i : Int) ∧ i + kq = l.length ∧ Aside0 (Pr 103 cfP w0 wr gp O co os k vi (out ++ ptsB le (l.take i)) ∧ Mv W wr gp vo vi))
  case atStart => exact ⟨0, vo, rfl, by omega, ⟨by simpa [ptsB] using HP.out, Mv.below gp vo (Below.refl _ _)⟩⟩
  case round =>
    clear HP
    obtain ⟨i, vi, rfl, hi, HPM⟩ := hrel
    cases gk with
    | zero =>
      have hlt : ¬ ((i : Int) < (l.length : Int)) := by omega
      obtain rfl : i = l.length := by omega
      go_wp2_with fail
      refine bodyPost_end (results_none rfl _ _ _) rfl ?_
      have h9 := HPM.out
      rw [List.take_length] at h9
      exact ⟨rfl, vi, h9.1, h9.2⟩
    | succ kq =>
      have hlt : (i : Int) < (l.length : Int) := by omega
      have hC := HS.out wr vi HPM.out.1.K HPM.out.2
      obtain ⟨ad, e1, p0, p1⟩ := at_Pt hC (i : Int) (by omega) (by omega)
      subst e1
      have hil : i < l.length := by omega
      have hrd : rd_Pt l (i : Int) = l[i] := by simp [rd_Pt, List.getD_eq_getElem?_getD, List.getElem?_eq_getElem hil]
      rw [hrd, Int.toNat_natCast] at p0 p1
      clear hrd
      have HTK := Aside0.mk (List.take_succ_eq_append_getElem hil)
      obtain ⟨q, hq⟩ : ∃ q, q = l[i] := ⟨_, rfl⟩
      rw [← hq] at p0 p1 HTK
      clear hq hC
      go_wp2_with fail
      obtain ⟨W0, hW0⟩ : ∃ y, y = wr.alloc (.cells #[.int .u64 q.f0, .int .u64 q.f1] 82) := ⟨_, rfl⟩
      obtain ⟨gq, hgq⟩ : ∃ y, y = wr.heap.size := ⟨_, rfl⟩
      rw [← hW0, ← hgq]
      have hbq : Below wr.heap.size wr W0 := by rw [hW0]; exact below_alloc (Below.refl _ _) _
      have kq0 : W0.heap[gq]? = some (.cells #[.int .u64 q.f0, .int .u64 q.f1] 82 (0, 0)) := by rw [hW0, hgq]; exact World.alloc_heap_new _ _
      have h0 := (HPM.out.1.below hbq).below (below_drew (Below.refl _ _))
      have hM0 := (HPM.out.2.trans (Mv.below gp vi hbq)).trans (Mv.below gp vi (below_drew (Below.refl _ _)))
      clear hbq hW0 hgq HPM p0 p1
      refine start_ (n := 17) (S := fun w' => w'.cell? ⟨gp, 0, none⟩ = some vi ∧ w'.cell? ⟨gq, 0, none⟩ = some (.int .u64 q.f0) ∧ w'.cell? ⟨gq, 1, none⟩ = some (.int .u64 q.f1) ∧ True) (ds := [16]) #[false, false, false, false, false, false, false, false, false, false, false, false, false, false, false, false, false] hmx rfl rfl ⟨(blk_cell (w := W0.drew) h0.c 0).trans rfl, (blk_cell (w := W0.drew) kq0 0).trans rfl, (blk_cell (w := W0.drew) kq0 1).trans rfl, trivial⟩ (fun hHeld => ?_)
      replace kq0 : W0.drew.heap[gq]? = some (.cells #[.int .u64 q.f0, .int .u64 q.f1] 82 (0, 0)) := kq0
      generalize W0.drew = Wb at h0 hM0 kq0 hHeld ⊢
      (refine pure_ (i := 0) (N := some 14) (v := ?_) (a' := ?_) #[true, false, false, false, false, false, false, false, false, false, false, false, false, false, false, false, false] rfl rfl (by kernel_rfl) (fun _ _ _ h => h) (Or.inl ⟨by rfl, ?_⟩) ?_ ?_; rotate_left; (focus (intro w'_; go_simp; with_reducible rfl)); rotate_left; (focus (simp only [Act.put, List.setIfInBounds_toArray, List.set_cons_zero, List.set_cons_succ]; rfl)))
      (refine pure_ (i := 1) (N := some 15) (v := ?_) (a' := ?_) #[true, true, false, false, false, false, false, false, false, false, false, false, false, false, false, false, false] rfl rfl (by kernel_rfl) (fun _ _ _ h => h) (Or.inl ⟨by rfl, ?_⟩) ?_ ?_; rotate_left; (focus (intro w'_; go_simp; with_reducible rfl)); rotate_left; (focus (simp only [Act.put, List.setIfInBounds_toArray, List.set_cons_zero, List.set_cons_succ]; rfl)))
      (refine pure_ (i := 2) (N := some 16) (v := ?_) (a' := ?_) #[true, true, true, false, false, false, false, false, false, false, false, false, false, false, false, false, false] rfl rfl (by kernel_rfl) (fun _ _ _ h => h) (Or.inl ⟨by rfl, ?_⟩) ?_ ?_; rotate_left; (focus (intro w'_; go_simp; with_reducible rfl)); rotate_left; (focus (simp only [Act.put, List.setIfInBounds_toArray, List.set_cons_zero, List.set_cons_succ]; rfl)))
      (refine pure_ (i := 3) (N := some 17) (v := ?_) (a' := ?_) #[true, true, true, true, false, false, false, false, false, false, false, false, false, false, false, false, false] rfl rfl (by kernel_rfl) (fun _ _ _ h => h) (Or.inl ⟨by rfl, ?_⟩) ?_ ?_; rotate_left; (focus (intro w'_; go_simp; with_reducible rfl)); rotate_left; (focus (simp only [Act.put, List.setIfInBounds_toArray, List.set_cons_zero, List.set_cons_succ]; rfl)))
      (refine pure_ (i := 5) (N := some 19) (v := ?_) (a' := ?_) #[true, true, true, true, false, true, false, false, false, false, false, false, false, false, false, false, false] rfl rfl (by kernel_rfl) (fun _ _ _ h => h) (Or.inl ⟨by rfl, ?_⟩) ?_ ?_; rotate_left; (focus (intro w'_; go_simp; with_reducible rfl)); rotate_left; (focus (simp only [Act.put, List.setIfInBounds_toArray, List.set_cons_zero, List.set_cons_succ]; rfl)))
      (refine pure_ (i := 7) (N := some 21) (v := ?_) (a' := ?_) #[true, true, true, true, false, true, false, true, false, false, false, false, false, false, false, false, false] rfl rfl (by kernel_rfl) (fun _ _ _ h => h) (Or.inl ⟨by rfl, ?_⟩) ?_ ?_; rotate_left; (focus (intro w'_; go_simp; with_reducible rfl)); rotate_left; (focus (simp only [Act.put, List.setIfInBounds_toArray, List.set_cons_zero, List.set_cons_succ]; rfl)))
      (refine pure_ (i := 9) (N := some 23) (v := ?_) (a' := ?_) #[true, true, true, true, false, true, false, true, false, true, false, false, false, false, false, false, false] rfl rfl (by kernel_rfl) (fun _ _ _ h => h) (Or.inl ⟨by rfl, ?_⟩) ?_ ?_; rotate_left; (focus (intro w'_; go_simp; with_reducible rfl)); rotate_left; (focus (simp only [Act.put, List.setIfInBounds_toArray, List.set_cons_zero, List.set_cons_succ]; rfl)))
      (refine pure_ (i := 11) (N := some 25) (v := ?_) (a' := ?_) #[true, true, true, true, false, true, false, true, false, true, false, true, false, false, false, false, false] rfl rfl (by kernel_rfl) (fun _ _ _ h => h) (Or.inl ⟨by rfl, ?_⟩) ?_ ?_; rotate_left; (focus (intro w'_; go_simp; with_reducible rfl)); rotate_left; (focus (simp only [Act.put, List.setIfInBounds_toArray, List.set_cons_zero, List.set_cons_succ]; rfl)))
      (refine take_ (i := 4) (N := some 18) (v := ?_) (a' := ?_) #[true, true, true, true, true, true, false, true, false, true, false, true, false, false, false, false, false] rfl rfl (by kernel_rfl) (fun _ _ _ h => h) (Or.inl ⟨by rfl, ?_⟩) hHeld ?_ ?_; rotate_left; (focus (intro w'_ hs_; (repeat obtain ⟨_, hs_⟩ := hs_); go_simp; with_reducible rfl)); rotate_left; (focus (simp only [Act.put, List.setIfInBounds_toArray, List.set_cons_zero, List.set_cons_succ]; rfl)))
      (refine take_ (i := 6) (N := some 20) (v := ?_) (a' := ?_) #[true, true, true, true, true, true, true, true, false, true, false, true, false, false, false, false, false] rfl rfl (by kernel_rfl) (fun _ _ _ h => h) (Or.inl ⟨by rfl, ?_⟩) hHeld ?_ ?_; rotate_left; (focus (intro w'_ hs_; (repeat obtain ⟨_, hs_⟩ := hs_); go_simp; with_reducible rfl)); rotate_left; (focus (simp only [Act.put, List.setIfInBounds_toArray, List.set_cons_zero, List.set_cons_succ]; rfl)))
      (refine take_ (i := 10) (N := some 24) (v := ?_) (a' := ?_) #[true, true, true, true, true, true, true, true, false, true, true, true, false, false, false, false, false] rfl rfl (by kernel_rfl) (fun _ _ _ h => h) (Or.inl ⟨by rfl, ?_⟩) hHeld ?_ ?_; rotate_left; (focus (intro w'_ hs_; (repeat obtain ⟨_, hs_⟩ := hs_); go_simp; with_reducible rfl)); rotate_left; (focus (simp only [Act.put, List.setIfInBounds_toArray, List.set_cons_zero, List.set_cons_succ]; rfl)))
      refine one_ (i := 8) (N := some 22) #[true, true, true, true, true, true, true, true, true, true, true, true, false, false, false, false, false] rfl rfl (by kernel_rfl) (by decide) (fun K hK => ?_)
      refine goes_ Tryd.func36 (by kernel_rfl) rfl #[.slice none 0 0, .int .u64 q.f0, .bool le] (by rfl) rfl rfl (by (try simp only [List.map_toArray, List.map_cons, List.map_nil]); first | done | rfl) ?_
      refine (put64_ok none 0 [] q.f0 le Wb (Kd.C_nil _ _) (Nat.le_refl _) (by simp)).mono ?_
      rintro e w1 ⟨u1, rfl, hu1, hb1⟩
      obtain ⟨A1, c1, rfl⟩ := Kd.R_slice hu1
      have h1 := h0.below hb1
      have hM1 := hM0.trans (Mv.below gp vi hb1)
      have kq1 := (hb1.block gq (blk_lt kq0)).trans kq0
      refine ⟨_, rfl, hK.out _ _ ⟨(blk_cell h1.c 0).trans rfl, (blk_cell kq1 0).trans rfl, (blk_cell kq1 1).trans rfl, trivial⟩ (fun hHeld2 => ?_)⟩
      clear hK K hHeld hb1 h0 hM0 kq0
      (refine norm_ (a' := ?_) ?_ ?_; rotate_left; focus (show Act.put _ (some 22) _ = _; simp only [Act.put, List.setIfInBounds_toArray, List.set_cons_zero, List.set_cons_succ]; rfl))
      refine one_ (i := 12) (N := some 26) #[true, true, true, true, true, true, true, true, true, true, true, true, true, false, false, false, false] rfl rfl (by kernel_rfl) (by decide) (fun K hK => ?_)
      refine goes_ Tryd.func36 (by kernel_rfl) rfl #[.slice A1 (P64 [] q.f0 le).length c1, .int .u64 q.f1, .bool le] (by rfl) rfl rfl (by (try simp only [List.map_toArray, List.map_cons, List.map_nil]); first | done | rfl) ?_
      refine (put64_ok A1 c1 (P64 [] q.f0 le) q.f1 le w1 (Kd.R_reads' hu1).2.2 (Kd.R_reads' hu1).2.1 (by rw [P64_len]; simp)).mono ?_
      rintro e w2 ⟨u2, rfl, hu2, hb2⟩
      obtain ⟨A2, c2, rfl⟩ := Kd.R_slice hu2
      have h2 := h1.below hb2
      have hM2 := hM1.trans (Mv.below gp vi hb2)
      have kq2 := (hb2.block gq (blk_lt kq1)).trans kq1
      have hu2' := (Kd.R_reads' hu2).2.2
      have hl2 : (P64 (P64 [] q.f0 le) q.f1 le).length = 16 := by rw [P64_len, P64_len]; rfl
      rw [hl2] at hu2' ⊢
      refine ⟨_, rfl, hK.out _ _ ⟨(blk_cell h2.c 0).trans rfl, (blk_cell kq2 0).trans rfl, (blk_cell kq2 1).trans rfl, trivial⟩ (fun hHeld3 => ?_)⟩
      clear hK K hHeld2 hb2 h1 hM1 kq1 hu1 hu2
      (refine norm_ (a' := ?_) ?_ ?_; rotate_left; focus (show Act.put _ (some 26) _ = _; simp only [Act.put, List.setIfInBounds_toArray, List.set_cons_zero, List.set_cons_succ]; rfl))
      refine one_ (i := 13) (N := some 27) #[true, true, true, true, true, true, true, true, true, true, true, true, true, true, false, false, false] rfl rfl (by kernel_rfl) (by decide) (fun K hK => ?_)
      have hol : (out ++ ptsB le (l.take i)).length ≤ 70368744177664 := by rw [List.length_append, ptsB_len, List.length_take]; omega
      refine Kd.R_append_rows_step kB (w0 := w0) w0.heap.size (by rfl) (.tmp 18) (.tmp 26) 22 5 (.int .u8 0) 1 rfl Tryd.underlying22 info5 rfl (by decide) (by omega) vi (out ++ ptsB le (l.take i)) (P64 (P64 [] q.f0 le) q.f1 le) _ _ _ (fun _ => True) (fun _ => False) rfl rfl ?aO ?aR (fun _ _ h => h) (fun _ h => h.elim) ?aF ?aB ?aS ?aL ?_
      case aO => exact Kd.R_mono h2.r (fun _ _ => trivial)
      case aR => exact hu2'
      case aF => exact fun _ _ => trivial
      case aB => exact h2.K
      case aS => exact h2.K.size
      case aL => omega
      intro v3 w3 ho3 hb3 hg3 hat3
      rw [List.append_assoc, ← ptsB_snoc, ← HTK.out] at ho3
      obtain ⟨A3, c3, rfl⟩ := Kd.R_slice ho3
      obtain ⟨g1, g2, g3, g4⟩ := h2.grown ho3 hg3 hat3
      have hM3 : Mv w2 w3 gp vi _ := ⟨hg3.size, fun j hj _ hr => hg3.block j hj hr, hat3⟩
      have kq3 := blk_grown kq2 hg3 (Kd.R_ne h2.r kq2 (by decide))
      refine hK.out _ _ ⟨(blk_cell g1 0).trans rfl, (blk_cell kq3 0).trans rfl, (blk_cell kq3 1).trans rfl, trivial⟩ (fun hHeld4 => ?_)
      clear hK K hHeld3
      (refine norm_ (a' := ?_) ?_ ?_; rotate_left; focus (show Act.put _ (some 27) _ = _; simp only [Act.put, List.setIfInBounds_toArray, List.set_cons_zero, List.set_cons_succ]; rfl))
      (refine pure_ (i := 14) (N := some 28) (v := ?_) (a' := ?_) #[true, true, true, true, true, true, true, true, true, true, true, true, true, true, true, false, false] rfl rfl (by kernel_rfl) (fun _ _ _ h => h) (Or.inl ⟨by rfl, ?_⟩) ?_ ?_; rotate_left; (focus (intro w'_; go_simp; with_reducible rfl)); rotate_left; (focus (simp only [Act.put, List.setIfInBounds_toArray, List.set_cons_zero, List.set_cons_succ]; rfl)))
      (refine pure_ (i := 15) (N := some 29) (v := ?_) (a' := ?_) #[true, true, true, true, true, true, true, true, true, true, true, true, true, true, true, true, false] rfl rfl (by kernel_rfl) (fun _ _ _ h => h) (Or.inl ⟨by rfl, ?_⟩) ?_ ?_; rotate_left; (focus (intro w'_; go_simp; with_reducible rfl)); rotate_left; (focus (simp only [Act.put, List.setIfInBounds_toArray, List.set_cons_zero, List.set_cons_succ]; rfl)))
      refine last_ (i := 16) (N := none) #[true, true, true, true, true, true, true, true, true, true, true, true, true, true, true, true, true] rfl rfl (by kernel_rfl) (by decide) (fun K hK => ?_)
      have hs0 : w3.cell? ⟨gp, 0, none⟩ = some vi := (blk_cell g1 0).trans rfl
      have hf0 := blk_frozen g1 0
      obtain ⟨n3, hn3⟩ : ∃ y, y = (out ++ ptsB le (l.take (i + 1))).length := ⟨_, rfl⟩
      rw [← hn3] at g2 hM3 ⊢
      refine skip_ (w1 := ?_) (by rfl) rfl ?_ ?_
      rotate_left
      · go_simp
        rfl
      refine hK.out _ _ ?_
      clear hK K
      refine done_ (by kernel_rfl) ?_
      rw [List.length_append] at hn3
      subst hn3
      have HR := Aside0.mk (And.intro (Pr.set (v1 := vi) (k' := k) (u := .slice A3 (out.length + (ptsB le (l.take (i + 1))).length) c3) (i := 0) g1 g2 h2.o HG.out g3 (by simp [cfP])) ((hM2.trans hM3).trans (Mv.set (vo' := .slice A3 (out.length + (ptsB le (l.take (i + 1))).length) c3) 0 (.slice A3 (out.length + (ptsB le (l.take (i + 1))).length) c3) rfl)))
      clear g1 g2 g3 g4 hM2 hM3 kq3 kq2 h2 hs0 hf0 ho3 hg3 hat3 hb3 hu2' hHeld4
      go_wp2_with fail
      go_roundg kq
      case measure => omega
      case rel => exact ⟨i + 1, _, by go_num, by omega, HR⟩
end Go.Proofs.YtiiolhnpnlmkjaaDoor.Tree
namespace Go.Proofs.YtiiolhnpnlmkjaaDoor.Tree
open Go.RowKit Go.Proofs.YtiiolhnpnlmkjaaDoor.PWkbPrints Go.Proofs.YtiiolhnpnlmkjaaDoorW.PrintWords Go.Proofs.YtiiolhnpnlmkjaaDoorW.PrintLast Go.Proofs.YtiiolhnpnlmkjaaDoorW.PrintMore
def bitB (le : Bool) : List Int := [if le then 1 else 0]
def nanP : Pt := ⟨9221120237041090560, 9221120237041090560⟩
def u32 (n : Int) : Int := IntKind.u32.wrap n
/-- A ring's bytes, and rings'. -/
def ringB (le : Bool) (r : List Pt) : List Int := P32 (u32 r.length) le ++ ptsB le r
def ringsB (le : Bool) (l : List (List Pt)) : List Int := l.flatMap (ringB le)
theorem ringsB_snoc (le : Bool) (l : List (List Pt)) (r : List Pt) : ringsB le (l ++ [r]) = ringsB le l ++ (P32 (u32 r.length) le ++ ptsB le r) := by unfold ringsB; rw [List.flatMap_append]; simp [ringB]
theorem ringsB_len (le : Bool) (l : List (List Pt)) : (ringsB le l).length = 4 * l.length + 16 * l.flatten.length := by
  induction l with
  | nil => rfl
  | cons r l ih =>
    have e : ringsB le (r :: l) = ringB le r ++ ringsB le l := by unfold ringsB; rw [List.flatMap_cons]
    rw [e, List.length_append, ih, ringB, List.length_append, P32_len, ptsB_len, List.flatten_cons, List.length_append, List.length_cons]
    omega
mutual
/-- How many geometries are written. -/
def cntG : Ge → Nat
  | ⟨k, _, _, ps⟩ => if k = 1 ∨ k = 2 ∨ k = 3 then 1 else 1 + cntL ps
def cntL : List Ge → Nat
  | [] => 0
  | p :: ps => cntG p + cntL ps
end
mutual
/-- A geometry's bytes, the n-th that begins. -/
def geoB (os : List Bool) : Ge → Nat → List Int
  | ⟨k, l, r, ps⟩, n => bitB (ordAt os n) ++ (P32 (u32 k) (ordAt os n) ++
      (if k = 1 then (if l.length = 0 then ptsB (ordAt os n) [nanP] else ptsB (ordAt os n) l)
       else if k = 2 then P32 (u32 l.length) (ordAt os n) ++ ptsB (ordAt os n) l
       else if k = 3 then P32 (u32 r.length) (ordAt os n) ++ ringsB (ordAt os n) r
       else P32 (u32 ps.length) (ordAt os n) ++ partsB os ps (n + 1)))
def partsB (os : List Bool) : List Ge → Nat → List Int
  | [], _ => []
  | p :: ps, n => geoB os p n ++ partsB os ps (n + cntG p)
end
theorem cntL_append (a b : List Ge) : cntL (a ++ b) = cntL a + cntL b := by
  induction a with
  | nil => simp [cntL]
  | cons p a ih => simp only [List.cons_append, cntL, ih]; omega
theorem partsB_append (os : List Bool) (a b : List Ge) : ∀ n, partsB os (a ++ b) n = partsB os a n ++ partsB os b (n + cntL a) := by
  induction a with
  | nil => intro n; simp [partsB, cntL]
  | cons p a ih => intro n; simp only [List.cons_append, partsB, cntL, ih, List.append_assoc, Nat.add_assoc]
theorem partsB_snoc (os : List Bool) (a : List Ge) (p : Ge) (n : Nat) : partsB os (a ++ [p]) n = partsB os a n ++ geoB os p (n + cntL a) := by rw [partsB_append]; simp [partsB]
theorem cntL_snoc (a : List Ge) (p : Ge) : cntL (a ++ [p]) = cntL a + cntG p := by rw [cntL_append]; simp [cntL]
theorem geoB_eq (os : List Bool) (g : Ge) (n : Nat) : geoB os g n = bitB (ordAt os n) ++ (P32 (u32 g.f0) (ordAt os n) ++
      (if g.f0 = 1 then (if g.f1.length = 0 then ptsB (ordAt os n) [nanP] else ptsB (ordAt os n) g.f1)
       else if g.f0 = 2 then P32 (u32 g.f1.length) (ordAt os n) ++ ptsB (ordAt os n) g.f1
       else if g.f0 = 3 then P32 (u32 g.f2.length) (ordAt os n) ++ ringsB (ordAt os n) g.f2
       else P32 (u32 g.f3.length) (ordAt os n) ++ partsB os g.f3 (n + 1))) := by
  cases g; simp only [geoB]
theorem cntG_eq (g : Ge) : cntG g = if g.f0 = 1 ∨ g.f0 = 2 ∨ g.f0 = 3 then 1 else 1 + cntL g.f3 := by cases g; simp only [cntG]
theorem geoB_len (os : List Bool) (m : Nat) : (∀ (g : Ge) (n : Nat), g.bulk ≤ m → (geoB os g n).length ≤ 32 * g.bulk ∧ cntG g ≤ g.bulk) ∧ (∀ (l : List Ge) (n : Nat), bulks l ≤ m → (partsB os l n).length ≤ 32 * bulks l ∧ cntL l ≤ bulks l) := by
  induction m with
  | zero =>
    refine ⟨fun g n h => by have := g.bulk_eq; omega, fun l n h => ?_⟩
    cases l with
    | nil => simp [partsB, cntL, bulks]
    | cons p l => simp only [bulks] at h; have := p.bulk_eq; omega
  | succ m ih =>
    have hg : ∀ (g : Ge) (n : Nat), g.bulk ≤ m + 1 → (geoB os g n).length ≤ 32 * g.bulk ∧ cntG g ≤ g.bulk := by
      intro g n h
      have hb := g.bulk_eq
      obtain ⟨h1, h2⟩ := ih.2 g.f3 (n + 1) (by omega)
      refine ⟨?_, by rw [cntG_eq]; split <;> omega⟩
      rw [geoB_eq]
      simp only [List.length_append, P32_len, bitB, List.length_singleton]
      have e1 := ptsB_len (ordAt os n) [nanP]
      have e2 := ptsB_len (ordAt os n) g.f1
      have e3 := ringsB_len (ordAt os n) g.f2
      simp only [List.length_singleton] at e1
      repeat' split
      · rw [e1]; omega
      · rw [e2]; omega
      · rw [List.length_append, P32_len, e2]; omega
      · rw [List.length_append, P32_len, e3]; omega
      · rw [List.length_append, P32_len]; omega
    refine ⟨hg, fun l => ?_⟩
    induction l with
    | nil => intro n _; simp [partsB, cntL, bulks]
    | cons p l ihl =>
      intro n h
      simp only [bulks] at h ⊢
      obtain ⟨h1, h2⟩ := hg p n (by omega)
      obtain ⟨h3, h4⟩ := ihl (n + cntG p) (by omega)
      simp only [partsB, cntL, List.length_append]
      omega
theorem partsB_le (os : List Bool) (l : List Ge) (n : Nat) : (partsB os l n).length ≤ 32 * bulks l ∧ cntL l ≤ bulks l := (geoB_len os (bulks l)).2 l n (Nat.le_refl _)
theorem bulks_take (l : List Ge) (j : Nat) : bulks (l.take j) ≤ bulks l := by
  induction l generalizing j with
  | nil => simp [bulks]
  | cons p l ih =>
    cases j with
    | zero => simp [bulks]
    | succ j => simp only [List.take_succ_cons, bulks]; have := ih j; omega
theorem bulks_app (a b : List Ge) : bulks (a ++ b) = bulks a + bulks b := by
  induction a with
  | nil => simp [bulks]
  | cons p a ih => simp only [List.cons_append, bulks, ih]; omega
/-- All kinds in a tree are kinds. -/
inductive Kinds : Ge → Prop
  | mk (g : Ge) (h : 1 ≤ g.f0 ∧ g.f0 ≤ 7) (hp : ∀ p ∈ g.f3, Kinds p) : Kinds g
theorem Kinds.range {g : Ge} (h : Kinds g) : 1 ≤ g.f0 ∧ g.f0 ≤ 7 := by cases h; assumption
theorem Kinds.part {g p : Ge} (h : Kinds g) (hp : p ∈ g.f3) : Kinds p := by cases h with | mk _ _ h => exact h p hp
structure Gs (ty : TypeId) (cf : Value → Value → Int → Array Value) (w0 W0 W : World) (gp : Nat) (O : Option Addr) (co : Nat) (os : List Bool) (k : Nat) (v0 vo : Value) (out : List Int) (gb : Nat) (gc : Array Value) : Prop where
  P : Pr ty cf w0 W gp O co os k vo out
  M : Mv W0 W gp v0 vo
  b : W.heap[gb]? = some (.cells gc 28 (0, 0))
  n : gb ≠ gp
section
variable {ty : TypeId} {cf : Value → Value → Int → Array Value} {w0 W0 W W' : World} {gp co k k' gb : Nat} {O : Option Addr} {os : List Bool} {v0 vo vo' : Value} {out out' : List Int} {gc : Array Value}
theorem Gs.step (h : Gs ty cf w0 W0 W gp O co os k v0 vo out gb gc) (hp : Pr ty cf w0 W' gp O co os k' vo' out') (hm : Mv W W' gp vo vo') : Gs ty cf w0 W0 W' gp O co os k' v0 vo' out' gb gc :=
  ⟨hp, h.M.trans hm, hm.keep h.b h.n (Kd.R_ne h.P.r h.b (by decide)), h.n⟩
theorem Gs.below (h : Gs ty cf w0 W0 W gp O co os k v0 vo out gb gc) (hb : Below W.heap.size W W') : Gs ty cf w0 W0 W' gp O co os k v0 vo out gb gc := h.step (h.P.below hb) (Mv.below gp vo hb)
end
/-- One point in a block of its own. -/
theorem lit_pt {W : World} {b : Nat} {q : Pt} (h : W.heap[b]? = some (.cells #[.int .u64 q.f0, .int .u64 q.f1] 82 (0, 0))) : kPt.C W (some ⟨b, 0, none⟩) 1 [q] := by
  refine ⟨rfl, by decide, fun _ => ⟨_, rfl, fun j p hj => ?_⟩⟩
  have hj0 : j = 0 := by
    have := (List.getElem?_eq_some_iff.1 hj).1
    simp at this
    omega
  subst hj0
  obtain rfl := Option.some.inj hj
  refine ⟨[.int .u64 q.f0, .int .u64 q.f1], rfl, kPt_mk _ _, fun i u hu => ?_⟩
  rw [add_plain, blk_cell h]
  rcases i with _ | _ | i
  · simpa [kPt] using hu
  · simpa [kPt] using hu
  · simp at hu
end Go.Proofs.YtiiolhnpnlmkjaaDoor.Tree
