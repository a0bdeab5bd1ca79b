/- Go functions as Lean functions and their contracts: each call comes to what the Lean function says; or a law's row out of them. No conditions. Written by this session's wip/hprint.py (the kit's print with contracts and repairs of my own). -/
import Derived.Test.YtiiolhnpnlmkjaaDoorPWkbPrintsx0
namespace Go.Proofs.YtiiolhnpnlmkjaaDoor.PWkbPrints
open Go.RowKit Go.Proofs.YtiiolhnpnlmkjaaDoorW.PrintWords Go.Proofs.YtiiolhnpnlmkjaaDoorW.PrintLast Go.Proofs.YtiiolhnpnlmkjaaDoorW.PrintMore
attribute [local go_sem] max2_int min2_int max_two min_two max_three min_three max_four min_four   -- for this text's walks alone
set_option linter.unusedVariables false
set_option linter.unusedSimpArgs false

/-- A state of type 103 at block g of W; what its slices lead to came in by w0. -/
def IsS103 (w0 W : World) (g : Nat) (f0 : List Int) (f1 : List Bool) (f2 : Int) : Prop := ∃ A0 c0, ∃ A1 c1, W.heap[g]? = some (.cells #[.slice A0 f0.length c0, .slice A1 f1.length c1, .int .i64 f2] 103 (0, 0)) ∧ w0.heap.size ≤ g ∧ Kd.C (Kd.int .u8) w0 A0 f0.length f0 ∧ Kd.C Kd.bool w0 A1 f1.length f1
theorem IsS103.grown {w0 W : World} {g : Nat} {f0 : List Int} {f1 : List Bool} {f2 : Int} {W1 : World} {row : Option Nat} (h : IsS103 w0 W g f0 f1 f2) (hw : W.grownBy W1 row) (hne : some g ≠ row) : IsS103 w0 W1 g f0 f1 f2 := by
  obtain ⟨A0, c0, A1, c1, hb, hg, hr0, hr1⟩ := h
  exact ⟨A0, c0, A1, c1, blk_grown hb hw hne, hg, hr0, hr1⟩
theorem IsS103.own_neN {w0 W : World} {g : Nat} {f0 : List Int} {f1 : List Bool} {f2 : Int} {α : Type} {d : Kd α} {e : Nat} {base : Nat} {ok : Nat → Prop} {v : Value} {xs : List α} (h : IsS103 w0 W g f0 f1 f2) (ho : Kd.N d e W base ok v xs) (ht : e ≠ 103) : some g ≠ v.ownBlock := by
  obtain ⟨A0, c0, A1, c1, hb, hg, hr0, hr1⟩ := h
  exact Kd.N_ne ho hb ht
theorem IsS103.fresh {w0 W : World} {g : Nat} {f0 : List Int} {f1 : List Bool} {f2 : Int} (h : IsS103 w0 W g f0 f1 f2) : ∀ k, W.heap.size ≤ k → k ≠ g := by
  obtain ⟨A0, c0, A1, c1, hb, hg, hr0, hr1⟩ := h
  exact Kd.freshB hb
theorem IsS103.kept {w0 W : World} {g : Nat} {f0 : List Int} {f1 : List Bool} {f2 : Int} {W1 : World} {S : Nat → Prop} (h : IsS103 w0 W g f0 f1 f2) (hk : Kept W W1 S) (hne : ¬ S g) : IsS103 w0 W1 g f0 f1 f2 := by
  obtain ⟨A0, c0, A1, c1, hb, hg, hr0, hr1⟩ := h
  exact ⟨A0, c0, A1, c1, blk_kept hb hk hne, hg, hr0, hr1⟩
theorem IsS103.below {w0 W : World} {g : Nat} {f0 : List Int} {f1 : List Bool} {f2 : Int} {W1 : World} (h : IsS103 w0 W g f0 f1 f2) (hw : Below W.heap.size W W1) : IsS103 w0 W1 g f0 f1 f2 := h.grown (grown_of_below hw none) (by simp)
theorem IsS103.alloc {w0 W : World} {g : Nat} {f0 : List Int} {f1 : List Bool} {f2 : Int} (h : IsS103 w0 W g f0 f1 f2) (o : Obj) : IsS103 w0 (W.alloc o) g f0 f1 f2 := h.below (below_alloc (Below.refl _ _) o)
theorem IsS103.drewN {w0 W : World} {g : Nat} {f0 : List Int} {f1 : List Bool} {f2 : Int} (h : IsS103 w0 W g f0 f1 f2) (m : Nat) : IsS103 w0 (W.drewN m) g f0 f1 f2 := h
theorem IsS103.drew {w0 W : World} {g : Nat} {f0 : List Int} {f1 : List Bool} {f2 : Int} (h : IsS103 w0 W g f0 f1 f2) : IsS103 w0 W.drew g f0 f1 f2 := h
theorem IsS103.at_ {w0 W : World} {g : Nat} {f0 : List Int} {f1 : List Bool} {f2 : Int} {w' : World} {m : Nat} (hq : W.drewN m = w') (h : IsS103 w0 W g f0 f1 f2) : IsS103 w0 w' g f0 f1 f2 := by subst hq; exact IsS103.drewN h m
theorem IsS103.apart {w0 W : World} {g : Nat} {f0 : List Int} {f1 : List Bool} {f2 : Int} {α : Type} {d : Kd α} {e : Nat} {base : Nat} {ok : Nat → Prop} {v : Value} {xs : List α} (h : IsS103 w0 W g f0 f1 f2) (ho : d.R e W base ok v xs) (ht : ∀ q, q ∈ e :: d.E → q ≠ 103) : d.R e W base (fun k => ok k ∧ k ≠ g) v xs := by
  obtain ⟨A0, c0, A1, c1, hb, hg, hr0, hr1⟩ := h
  exact Kd.R_types ho hb ht
theorem IsS103.own_ne {w0 W : World} {g : Nat} {f0 : List Int} {f1 : List Bool} {f2 : Int} {α : Type} {d : Kd α} {e : Nat} {base : Nat} {ok : Nat → Prop} {v : Value} {xs : List α} (h : IsS103 w0 W g f0 f1 f2) (ho : d.R e W base ok v xs) (ht : e ≠ 103) : some g ≠ v.ownBlock := by
  obtain ⟨A0, c0, A1, c1, hb, hg, hr0, hr1⟩ := h
  exact Kd.R_ne ho hb ht
theorem IsS103.apartQ {w0 W : World} {g : Nat} {f0 : List Int} {f1 : List Bool} {f2 : Int} {α : Type} {d : Kd α} {e : Nat} {base : Nat} {ok : Nat → Prop} {v : Value} {xs : List α} (h : IsS103 w0 W g f0 f1 f2) (ho : d.Q e W base ok v xs) (ht : ∀ q, q ∈ e :: d.E → q ≠ 103) : d.Q e W base (fun k => ok k ∧ k ≠ g) v xs := by
  obtain ⟨A0, c0, A1, c1, hb, hg, hr0, hr1⟩ := h
  exact Kd.Q_types ho hb ht
theorem IsS103.own_neQ {w0 W : World} {g : Nat} {f0 : List Int} {f1 : List Bool} {f2 : Int} {α : Type} {d : Kd α} {e : Nat} {base : Nat} {ok : Nat → Prop} {v : Value} {xs : List α} (h : IsS103 w0 W g f0 f1 f2) (ho : d.Q e W base ok v xs) (ht : e ≠ 103) : some g ≠ v.ownBlock := by
  obtain ⟨A0, c0, A1, c1, hb, hg, hr0, hr1⟩ := h
  exact Kd.Q_ne ho hb ht
theorem IsS103.apartS {w0 W : World} {g : Nat} {f0 : List Int} {f1 : List Bool} {f2 : Int} {α : Type} {d : Kd α} {e : Nat} {base : Nat} {ok : Nat → Prop} {v : Value} {xs : List α} (h : IsS103 w0 W g f0 f1 f2) (ho : d.S e W base ok v xs) (ht : ∀ q, q ∈ e :: d.E → q ≠ 103) : d.S e W base (fun k => ok k ∧ k ≠ g) v xs := by
  obtain ⟨A0, c0, A1, c1, hb, hg, hr0, hr1⟩ := h
  exact Kd.S_types ho hb ht
theorem IsS103.own_neS {w0 W : World} {g : Nat} {f0 : List Int} {f1 : List Bool} {f2 : Int} {α : Type} {d : Kd α} {e : Nat} {base : Nat} {ok : Nat → Prop} {v : Value} {xs : List α} (h : IsS103 w0 W g f0 f1 f2) (ho : d.S e W base ok v xs) (ht : e ≠ 103) : some g ≠ v.ownBlock := by
  obtain ⟨A0, c0, A1, c1, hb, hg, hr0, hr1⟩ := h
  exact Kd.S_ne ho hb ht
theorem IsS103.lt {w0 W : World} {g : Nat} {f0 : List Int} {f1 : List Bool} {f2 : Int} (h : IsS103 w0 W g f0 f1 f2) : g < W.heap.size := by
  obtain ⟨A0, c0, A1, c1, hb, hg, hr0, hr1⟩ := h
  exact blk_lt hb
theorem IsS103.ge {w0 W : World} {g : Nat} {f0 : List Int} {f1 : List Bool} {f2 : Int} (h : IsS103 w0 W g f0 f1 f2) : w0.heap.size ≤ g := by
  obtain ⟨A0, c0, A1, c1, hb, hg, hr0, hr1⟩ := h
  exact hg
theorem IsS103.ne_blk {w0 W : World} {g : Nat} {f0 : List Int} {f1 : List Bool} {f2 : Int} {a : Nat} {cs : Array Value} {t : TypeId} {fr : Nat × Nat} (h : IsS103 w0 W g f0 f1 f2) (hb2 : W.heap[a]? = some (.cells cs t fr)) (ht : t ≠ 103) : g ≠ a := by
  obtain ⟨A0, c0, A1, c1, hb, hg, hr0, hr1⟩ := h
  rintro rfl
  rw [hb] at hb2
  injection hb2 with hb2
  injection hb2 with _ ht2
  exact ht ht2.symm
theorem IsS103.far {w0 W : World} {g : Nat} {f0 : List Int} {f1 : List Bool} {f2 : Int} {p : Addr} (h : IsS103 w0 W g f0 f1 f2) (hne : g ≠ p.block) (u : Value) : IsS103 w0 (W.setCell p u) g f0 f1 f2 := by
  obtain ⟨A0, c0, A1, c1, hb, hg, hr0, hr1⟩ := h
  exact ⟨A0, c0, A1, c1, blk_far hb hne u, hg, hr0, hr1⟩
theorem cellS103_0 {W : World} {g : Nat} {A0 : Option Addr} {c0 : Nat} {A1 : Option Addr} {c1 : Nat} {f0 : List Int} {f1 : List Bool} {f2 : Int} (h : W.heap[g]? = some (.cells #[.slice A0 f0.length c0, .slice A1 f1.length c1, .int .i64 f2] 103 (0, 0))) : W.cell? ⟨g, 0, none⟩ = some (.slice A0 f0.length c0) := (blk_cell h 0).trans rfl
theorem cellS103_1 {W : World} {g : Nat} {A0 : Option Addr} {c0 : Nat} {A1 : Option Addr} {c1 : Nat} {f0 : List Int} {f1 : List Bool} {f2 : Int} (h : W.heap[g]? = some (.cells #[.slice A0 f0.length c0, .slice A1 f1.length c1, .int .i64 f2] 103 (0, 0))) : W.cell? ⟨g, 1, none⟩ = some (.slice A1 f1.length c1) := (blk_cell h 1).trans rfl
theorem cellS103_2 {W : World} {g : Nat} {A0 : Option Addr} {c0 : Nat} {A1 : Option Addr} {c1 : Nat} {f0 : List Int} {f1 : List Bool} {f2 : Int} (h : W.heap[g]? = some (.cells #[.slice A0 f0.length c0, .slice A1 f1.length c1, .int .i64 f2] 103 (0, 0))) : W.cell? ⟨g, 2, none⟩ = some (.int .i64 f2) := (blk_cell h 2).trans rfl
theorem IsS103.set_2 {w0 W : World} {g : Nat} {f0 : List Int} {f1 : List Bool} {f2 : Int} (h : IsS103 w0 W g f0 f1 f2) (x : Int) : IsS103 w0 (W.setCell ⟨g, 2, none⟩ (.int .i64 x)) g f0 f1 x := by
  obtain ⟨A0, c0, A1, c1, hb, hg, hr0, hr1⟩ := h
  exact ⟨A0, c0, A1, c1, by simpa using blk_set hb 2 (.int .i64 x), hg, hr0, hr1⟩
theorem IsS103.new (w0 W : World) (A0 : Option Addr) (c0 : Nat) (A1 : Option Addr) (c1 : Nat) (f0 : List Int) (f1 : List Bool) (f2 : Int) (hB : Below w0.heap.size w0 W) (hr0 : Kd.C (Kd.int .u8) w0 A0 f0.length f0) (hr1 : Kd.C Kd.bool w0 A1 f1.length f1) : IsS103 w0 (W.alloc (.cells #[.slice A0 f0.length c0, .slice A1 f1.length c1, .int .i64 f2] 103)) W.heap.size f0 f1 f2 := ⟨A0, c0, A1, c1, by simpa using heap_alloc_new W _, hB.size, hr0, hr1⟩

/-! ### wkb_printer_order: function 72 -/
def wkb_printer_order.f (s0_0 : List Int) (s0_1 : List Bool) (s0_2 : Int) : Option (Bool × Int) := if (s0_1.length : Int) = 0 then (some (false, wrap64 (s0_2 + 1))) else (if 0 ≤ (mn s0_2 (wrap64 ((s0_1.length : Int) - 1))) then (if (mn s0_2 (wrap64 ((s0_1.length : Int) - 1))) < (s0_1.length : Int) then (some (rdOf false s0_1 (mn s0_2 (wrap64 ((s0_1.length : Int) - 1))), wrap64 (s0_2 + 1))) else (none)) else (none))
set_option maxHeartbeats 8000000 in
set_option maxRecDepth 100000 in
theorem wkb_printer_order.calls (g : Nat) (s0_0 : List Int) (s0_1 : List Bool) (s0_2 : Int) (r1 : Bool) (r2 : Int) (w0 w : World) (hI : IsS103 w0 w g s0_0 s0_1 s0_2) (hB : Below w0.heap.size w0 w) (h : wkb_printer_order.f s0_0 s0_1 s0_2 = some (r1, r2)) :
    Calls Tryd.prog 72 #[.pointer (some ⟨g, 0, none⟩)] w fun e w' => e = .returned (.bool r1) ∧ IsS103 w0 w' g s0_0 s0_1 r2 ∧ Below w0.heap.size w0 w' ∧ KeepBut w w' g none := by
  have HI0 := Aside0.mk hI
  have HK := Aside0.mk (KeepBut.refl w g none)
  have HL := Aside0.mk hB.size
  clear hI
  have HW0 := Aside0.mk hB.size
  have HB := Aside0.mk hB
  clear hB
  have H : (if (s0_1.length : Int) = 0 then (some (false, wrap64 (s0_2 + 1))) else (if 0 ≤ (mn s0_2 (wrap64 ((s0_1.length : Int) - 1))) then (if (mn s0_2 (wrap64 ((s0_1.length : Int) - 1))) < (s0_1.length : Int) then (some (rdOf false s0_1 (mn s0_2 (wrap64 ((s0_1.length : Int) - 1))), wrap64 (s0_2 + 1))) else (none)) else (none))) = some (r1, r2) := h
  clear h
  by_cases c2 : (s0_1.length : Int) = 0
  · rw [if_pos c2] at H
    have c2b0 : ((s0_1.length : Int) == 0) = true := beq_iff_eq.mpr c2
    have c2b1 : ((s0_1.length : Int) != 0) = false := bne_eq_false_iff_eq.mpr c2
    clear c2
    simp only [Option.some.injEq, Prod.mk.injEq] at H
    obtain ⟨rfl, rfl⟩ := H
    obtain ⟨ASz3_0, cSz3_0, ASz3_1, cSz3_1, HGz3, hgz3, HSz3_0, HSz3_1⟩ := HI0.out
    have hcz3_0 := cellS103_0 HGz3
    have hcz3_1 := cellS103_1 HGz3
    have hcz3_2 := cellS103_2 HGz3
    have hfz3_2 := blk_frozen HGz3 2
    clear HGz3 hgz3
    go_enter Tryd.func72, Tryd.ntmps72
    go_wp2
    repeat (go_quiet (fail); try go_wp2)
    go_ret
    exact ⟨by first | rfl | (simp [errW_none, errW_some] <;> rfl) | (simp [*, errW_none, errW_some] <;> rfl), by repeat (first | (with_reducible first | exact HI0.out | apply IsS103.alloc | apply IsS103.drewN | apply IsS103.drew | apply IsS103.set_2) | exact HI0.out), by repeat (first | (with_reducible first | exact HB.out | apply below_alloc | apply pw_below_drewN | apply below_drew1 | refine below_set ?_ (IsS103.ge HI0.out)) | exact HB.out), by repeat (first | (with_reducible first | exact HK.out | apply KeepBut.set_ | apply keep_drewN | apply keep_drew | apply keep_alloc) | exact HK.out)⟩
  · rw [if_neg c2] at H
    have c2b0 : ((s0_1.length : Int) == 0) = false := beq_eq_false_iff_ne.mpr c2
    have c2b1 : ((s0_1.length : Int) != 0) = true := bne_iff_ne.mpr c2
    have c2b2 : ¬ (s0_1 = []) := fun h_ => c2 (by rw [h_]; rfl)
    obtain ⟨ji4, hji4⟩ : ∃ j_ : Int, (mn s0_2 (wrap64 ((s0_1.length : Int) - 1))) = j_ := ⟨_, rfl⟩
    replace H : (if 0 ≤ (ji4) then (if (ji4) < (s0_1.length : Int) then (some (rdOf false s0_1 (ji4), wrap64 (s0_2 + 1))) else (none)) else (none)) = some (r1, r2) := by first | (rw [hji4] at H; exact H) | (simp only [hji4] at H ⊢; exact H)
    have hji4_ : (if (wrap64 ((s0_1.length : Int) - 1)) < s0_2 then (wrap64 ((s0_1.length : Int) - 1)) else s0_2) = ji4 := hji4
    by_cases c5 : 0 ≤ (ji4)
    · rw [if_pos c5] at H
      have c5b0 : decide (0 ≤ (ji4)) = true := decide_eq_true c5
      clear c5
      by_cases c6 : (ji4) < (s0_1.length : Int)
      · rw [if_pos c6] at H
        have c6b0 : decide ((ji4) < (s0_1.length : Int)) = true := decide_eq_true c6
        clear c6
        simp only [Option.some.injEq, Prod.mk.injEq] at H
        obtain ⟨rfl, rfl⟩ := H
        obtain ⟨ASz7_0, cSz7_0, ASz7_1, cSz7_1, HGz7, hgz7, HSz7_0, HSz7_1⟩ := HI0.out
        have hcz7_0 := cellS103_0 HGz7
        have hcz7_1 := cellS103_1 HGz7
        have hcz7_2 := cellS103_2 HGz7
        have hfz7_2 := blk_frozen HGz7 2
        clear HGz7 hgz7
        have p152 : 0 ≤ ((ji4) : Int) := of_decide_eq_true (by first | (with_reducible assumption) | assumption)
        have q152 : (ji4) < (s0_1.length : Int) := of_decide_eq_true (by first | (with_reducible assumption) | assumption)
        obtain ⟨ad152, e152, hx152_0⟩ := Kd.at_bool HSz7_1 (ji4) p152 q152
        cases e152
        have hn152_0 : ad152.block ≠ g := Nat.ne_of_lt (Nat.lt_of_lt_of_le (by have := World.block_lt_of_cell? _ _ hx152_0; first | rwa [add_block] at this | exact this) (IsS103.ge HI0.out))
        replace hx152_0 := pw_cell_below HB.out hx152_0
        replace hx152_0 := (cell_far (p := ⟨g, 2, none⟩) (by first | (rw [add_block]; exact hn152_0) | (show (Addr.add _ _).block ≠ _; rw [add_block]; exact hn152_0) | exact hn152_0) (.int .i64 (wrap64 (s0_2 + 1)))).trans hx152_0
        (try have hy152_0 := fun (n_ : Nat) => (show (((w.drewN n_).setCell ⟨g, 2, none⟩ (.int .i64 (wrap64 (s0_2 + 1))))).cell? _ = some _ from hx152_0))
        clear hn152_0
        replace p152 := eq_true p152
        replace q152 := eq_true q152
        go_enter Tryd.func72, Tryd.ntmps72
        go_wp2
        repeat (go_quiet (fail); try go_wp2)
        go_ret
        exact ⟨by first | rfl | (simp [errW_none, errW_some] <;> rfl) | (simp only [← hji4]; first | rfl | (simp [errW_none, errW_some] <;> rfl)) | (simp [*, errW_none, errW_some] <;> rfl), by repeat (first | (with_reducible first | exact HI0.out | apply IsS103.alloc | apply IsS103.drewN | apply IsS103.drew | apply IsS103.set_2) | exact HI0.out), by repeat (first | (with_reducible first | exact HB.out | apply below_alloc | apply pw_below_drewN | apply below_drew1 | refine below_set ?_ (IsS103.ge HI0.out)) | exact HB.out), by repeat (first | (with_reducible first | exact HK.out | apply KeepBut.set_ | apply keep_drewN | apply keep_drew | apply keep_alloc) | exact HK.out)⟩
      · rw [if_neg c6] at H
        exact absurd H (by simp)
    · rw [if_neg c5] at H
      exact absurd H (by simp)

/-! ### octet_put_uint32: function 51, by hand -/
def octet_put_uint32.out (l : List Int) (v : Int) (le : Bool) : List Int := if le = true then l ++ [v % 256, v / 256 % 256, v / 65536 % 256, v / 16777216 % 256] else l ++ [v / 16777216 % 256, v / 65536 % 256, v / 256 % 256, v % 256]
def octet_put_uint32.f (l0 : List Int) (a1 : Int) (a2 : Int) (a3 : Bool) : Option (List Int) := if a2 = 4 ∧ l0.length ≤ 140737488355316 then some (octet_put_uint32.out l0 a1 a3) else none
theorem octet_put_uint32.sets (l zs : List Int) (L : Int) (hL : (l.length : Int) = L) (hz : zs.length = l.length + 4) (x0 x1 x2 x3 : Int) : (((((l.take zs.length ++ zs.drop l.length).set L.toNat x0).set (L + 1).toNat x1).set (L + 2).toNat x2).set (L + 3).toNat x3) = l ++ [x0, x1, x2, x3] := by
  subst hL
  have hd : (zs.drop l.length).length = 4 := by rw [List.length_drop]; omega
  obtain ⟨ws, hw⟩ : ∃ ws, zs.drop l.length = ws := ⟨_, rfl⟩
  rw [hw] at hd ⊢
  rw [List.take_of_length_le (by omega)]
  obtain ⟨y0, y1, y2, y3, rfl⟩ : ∃ y0 y1 y2 y3, ws = [y0, y1, y2, y3] := by
    match ws, hd with
    | [y0, y1, y2, y3], _ => exact ⟨y0, y1, y2, y3, rfl⟩
  rw [show ((l.length : Int)).toNat = l.length + 0 from by omega, List.set_append_right _ _ (by omega), Nat.add_sub_cancel_left]
  rw [show ((l.length : Int) + 1).toNat = l.length + 1 from by omega, List.set_append_right _ _ (by omega), Nat.add_sub_cancel_left]
  rw [show ((l.length : Int) + 2).toNat = l.length + 2 from by omega, List.set_append_right _ _ (by omega), Nat.add_sub_cancel_left]
  rw [show ((l.length : Int) + 3).toNat = l.length + 3 from by omega, List.set_append_right _ _ (by omega), Nat.add_sub_cancel_left]
  rfl
def octet_put_uint32_stop (p : Prop) : Prop := p
theorem octet_put_uint32_put_stop {p : Prop} (h : octet_put_uint32_stop p) : p := h
set_option maxHeartbeats 4000000 in
set_option maxRecDepth 100000 in
theorem octet_put_uint32.any (A0 : Option Addr) (c0 : Nat) (l : List Int) (v : Int) (le : Bool) (w : World) (hr0 : Kd.C (Kd.int .u8) w A0 l.length l) (hc0 : l.length ≤ c0) (hl : l.length ≤ 140737488355316) :
    Calls Tryd.prog 51 #[.slice A0 l.length c0, .int .u32 v, .int .i64 4, .bool le] w fun e w' => ∃ v0_ : Value, e = .returned (v0_) ∧ Kd.R (Kd.int .u8) 5 w' w.heap.size (fun _ => True) v0_ (octet_put_uint32.out l v le) ∧ Below w.heap.size w w' := by
  have HR0 := Aside0.mk hr0
  have HC0 := Aside0.mk hc0
  have HL := Aside0.mk hl
  have hn : wrap64 ((l.length : Int) + 4) = (l.length : Int) + 4 := by unfold wrap64; omega
  have HN := Aside0.mk hn
  clear hr0 hc0 hl hn
  go_enter Tryd.func51, Tryd.ntmps51
  go_wp2_with (first
    | ((with_reducible refine gate_dst (N := 17) rfl ?_); refine Kd.R_make (Kd.int .u8) (w0 := w) w.heap.size 5 rfl (N := 17) rfl 22 _ _ rfl (wrap64 ((l.length : Int) + 4)) rfl rfl Tryd.underlying22 (.int .u8 0) 1 info5 rfl (by decide) (by omega) 0 (ok := fun _ => True) (okp := fun _ => False) rfl (fun _ h => h.elim) True.intro (by have := HN.out; omega) ?aL (Below.refl _ _) (Nat.le_refl _) ?_; (case aL => have := HL.out; have := HN.out; omega)
       intro v1 w1 ho hb hg hat
       obtain ⟨zs, hzs, hzl⟩ : ∃ zs, List.replicate (wrap64 ((l.length : Int) + 4)).toNat (0 : Int) = zs ∧ zs.length = l.length + 4 := ⟨_, rfl, by rw [List.length_replicate, HN.out]; omega⟩
       rw [hzs] at ho
       obtain ⟨g, cap, rfl⟩ := Go.Proofs.YtiiolhnpnlmkjaaDoor.Math.R_shape ho hat
       have HO := Aside0.mk ho
       have HB := Aside0.mk hb
       have HZ := Aside0.mk hzs
       have HZL := Aside0.mk hzl
       clear ho hb hg hat hzs hzl)
    | ((with_reducible refine gate_builtin (b := .copy) (xs := #[.tmp 18, .tmp 19]) rfl ?_); refine Go.Proofs.YtiiolhnpnlmkjaaDoor.Math.R_copy (w0 := w) (base := w.heap.size) 0 rfl (.tmp 18) (.tmp 19) 22 rfl Tryd.underlying22 (e := 5) ?sz zs l A0 l.length c0 rfl rfl HO.out (Kd.C_below HR0.out HB.out) HB.out ?_; (case sz => kernel_rfl)
       intro w2 ho hb hg
       rw [show min l.length zs.length = l.length from by rw [HZL.out]; omega]
       have HP := Aside0.mk ho
       have HB2 := Aside0.mk hb
       clear ho hb hg))
  have hb0 := HL.out
  have hzl := HZL.out
  obtain ⟨ys, hys⟩ : ∃ ys, l.take zs.length ++ zs.drop l.length = ys := ⟨_, rfl⟩
  have HY := Aside0.mk hys
  have hp := HP.out
  rw [hys, hzl] at hp
  clear HP HO HB HZ hys
  have HP0 := Aside0.mk hp
  clear hp
  obtain ⟨L, hL⟩ : ∃ L : Int, (l.length : Int) = L := ⟨_, rfl⟩
  have q0 : wrap64 (L + 0) = L := by unfold wrap64; omega
  have q1 : wrap64 (L + 1) = L + 1 := by unfold wrap64; omega
  have q2 : wrap64 (L + 2) = L + 2 := by unfold wrap64; omega
  have q3 : wrap64 (L + 3) = L + 3 := by unfold wrap64; omega
  cases le
  · refine wp_loop_rounds 5 ?_
    rw [rounds_succ]
    obtain ⟨hy, hz⟩ := Kd.R_celln (0 : Int) HP0.out L (by omega) (by omega)
    have HQ := Aside0.mk (Kd.R_putg HP0.out L (v / 16777216 % 256))
    have HC := Aside0.mk (below_set (v := .int .u8 (v / 16777216 % 256)) (j := L.toNat) HB2.out (Kd.R_base HP0.out g rfl))
    go_wp2_with ((with_reducible refine gate_store (t := 5) (p := 42) rfl ?_); refine octet_put_uint32_put_stop ?_)
    unfold octet_put_uint32_stop
    refine store_event (t := 5) (p := 42) (v := .tmp 41) (w1 := w2.setCell ⟨g, L.toNat, none⟩ (.int .u8 (v / 16777216 % 256))) rfl rfl rfl (by first | (go_simp; done) | (go_simp; rfl)) ?_
    intro w3 hw
    have hq := HQ.out.1; rw [← hw] at hq; have HP1 := Aside0.mk hq; have hc := HC.out; rw [← hw] at hc; have HB3 := Aside0.mk hc; clear hq hc hw hy hz HQ HC HP0 HB2
    go_wp2_with fail
    rw [rounds_succ]
    obtain ⟨hy, hz⟩ := Kd.R_celln (0 : Int) HP1.out (L + 1) (by omega) (by omega)
    have HQ := Aside0.mk (Kd.R_putg HP1.out (L + 1) (v / 65536 % 256))
    have HC := Aside0.mk (below_set (v := .int .u8 (v / 65536 % 256)) (j := (L + 1).toNat) HB3.out (Kd.R_base HP1.out g rfl))
    go_wp2_with ((with_reducible refine gate_store (t := 5) (p := 42) rfl ?_); refine octet_put_uint32_put_stop ?_)
    unfold octet_put_uint32_stop
    refine store_event (t := 5) (p := 42) (v := .tmp 41) (w1 := w3.setCell ⟨g, (L + 1).toNat, none⟩ (.int .u8 (v / 65536 % 256))) rfl rfl rfl (by first | (go_simp; done) | (go_simp; rfl)) ?_
    intro w4 hw
    have hq := HQ.out.1; rw [← hw] at hq; have HP2 := Aside0.mk hq; have hc := HC.out; rw [← hw] at hc; have HB4 := Aside0.mk hc; clear hq hc hw hy hz HQ HC HP1 HB3
    go_wp2_with fail
    rw [rounds_succ]
    obtain ⟨hy, hz⟩ := Kd.R_celln (0 : Int) HP2.out (L + 2) (by omega) (by omega)
    have HQ := Aside0.mk (Kd.R_putg HP2.out (L + 2) (v / 256 % 256))
    have HC := Aside0.mk (below_set (v := .int .u8 (v / 256 % 256)) (j := (L + 2).toNat) HB4.out (Kd.R_base HP2.out g rfl))
    go_wp2_with ((with_reducible refine gate_store (t := 5) (p := 42) rfl ?_); refine octet_put_uint32_put_stop ?_)
    unfold octet_put_uint32_stop
    refine store_event (t := 5) (p := 42) (v := .tmp 41) (w1 := w4.setCell ⟨g, (L + 2).toNat, none⟩ (.int .u8 (v / 256 % 256))) rfl rfl rfl (by first | (go_simp; done) | (go_simp; rfl)) ?_
    intro w5 hw
    have hq := HQ.out.1; rw [← hw] at hq; have HP3 := Aside0.mk hq; have hc := HC.out; rw [← hw] at hc; have HB5 := Aside0.mk hc; clear hq hc hw hy hz HQ HC HP2 HB4
    go_wp2_with fail
    rw [rounds_succ]
    obtain ⟨hy, hz⟩ := Kd.R_celln (0 : Int) HP3.out (L + 3) (by omega) (by omega)
    have HQ := Aside0.mk (Kd.R_putg HP3.out (L + 3) (v % 256))
    have HC := Aside0.mk (below_set (v := .int .u8 (v % 256)) (j := (L + 3).toNat) HB5.out (Kd.R_base HP3.out g rfl))
    go_wp2_with ((with_reducible refine gate_store (t := 5) (p := 42) rfl ?_); refine octet_put_uint32_put_stop ?_)
    unfold octet_put_uint32_stop
    refine store_event (t := 5) (p := 42) (v := .tmp 41) (w1 := w5.setCell ⟨g, (L + 3).toNat, none⟩ (.int .u8 (v % 256))) rfl rfl rfl (by first | (go_simp; done) | (go_simp; rfl)) ?_
    intro w6 hw
    have hq := HQ.out.1; rw [← hw] at hq; have HP4 := Aside0.mk hq; have hc := HC.out; rw [← hw] at hc; have HB6 := Aside0.mk hc; clear hq hc hw hy hz HQ HC HP3 HB5
    go_wp2_with fail
    rw [rounds_succ]
    go_wp2_with fail
    go_ret
    refine ⟨_, rfl, ?_, HB6.out⟩
    have e := HP4.out
    rw [← HY.out, octet_put_uint32.sets l zs L hL hzl, ← hzl] at e
    exact e
  · refine wp_loop_rounds 5 ?_
    rw [rounds_succ]
    obtain ⟨hy, hz⟩ := Kd.R_celln (0 : Int) HP0.out L (by omega) (by omega)
    have HQ := Aside0.mk (Kd.R_putg HP0.out L (v % 256))
    have HC := Aside0.mk (below_set (v := .int .u8 (v % 256)) (j := L.toNat) HB2.out (Kd.R_base HP0.out g rfl))
    go_wp2_with ((with_reducible refine gate_store (t := 5) (p := 42) rfl ?_); refine octet_put_uint32_put_stop ?_)
    unfold octet_put_uint32_stop
    refine store_event (t := 5) (p := 42) (v := .tmp 41) (w1 := w2.setCell ⟨g, L.toNat, none⟩ (.int .u8 (v % 256))) rfl rfl rfl (by first | (go_simp; done) | (go_simp; rfl)) ?_
    intro w3 hw
    have hq := HQ.out.1; rw [← hw] at hq; have HP1 := Aside0.mk hq; have hc := HC.out; rw [← hw] at hc; have HB3 := Aside0.mk hc; clear hq hc hw hy hz HQ HC HP0 HB2
    go_wp2_with fail
    rw [rounds_succ]
    obtain ⟨hy, hz⟩ := Kd.R_celln (0 : Int) HP1.out (L + 1) (by omega) (by omega)
    have HQ := Aside0.mk (Kd.R_putg HP1.out (L + 1) (v / 256 % 256))
    have HC := Aside0.mk (below_set (v := .int .u8 (v / 256 % 256)) (j := (L + 1).toNat) HB3.out (Kd.R_base HP1.out g rfl))
    go_wp2_with ((with_reducible refine gate_store (t := 5) (p := 42) rfl ?_); refine octet_put_uint32_put_stop ?_)
    unfold octet_put_uint32_stop
    refine store_event (t := 5) (p := 42) (v := .tmp 41) (w1 := w3.setCell ⟨g, (L + 1).toNat, none⟩ (.int .u8 (v / 256 % 256))) rfl rfl rfl (by first | (go_simp; done) | (go_simp; rfl)) ?_
    intro w4 hw
    have hq := HQ.out.1; rw [← hw] at hq; have HP2 := Aside0.mk hq; have hc := HC.out; rw [← hw] at hc; have HB4 := Aside0.mk hc; clear hq hc hw hy hz HQ HC HP1 HB3
    go_wp2_with fail
    rw [rounds_succ]
    obtain ⟨hy, hz⟩ := Kd.R_celln (0 : Int) HP2.out (L + 2) (by omega) (by omega)
    have HQ := Aside0.mk (Kd.R_putg HP2.out (L + 2) (v / 65536 % 256))
    have HC := Aside0.mk (below_set (v := .int .u8 (v / 65536 % 256)) (j := (L + 2).toNat) HB4.out (Kd.R_base HP2.out g rfl))
    go_wp2_with ((with_reducible refine gate_store (t := 5) (p := 42) rfl ?_); refine octet_put_uint32_put_stop ?_)
    unfold octet_put_uint32_stop
    refine store_event (t := 5) (p := 42) (v := .tmp 41) (w1 := w4.setCell ⟨g, (L + 2).toNat, none⟩ (.int .u8 (v / 65536 % 256))) rfl rfl rfl (by first | (go_simp; done) | (go_simp; rfl)) ?_
    intro w5 hw
    have hq := HQ.out.1; rw [← hw] at hq; have HP3 := Aside0.mk hq; have hc := HC.out; rw [← hw] at hc; have HB5 := Aside0.mk hc; clear hq hc hw hy hz HQ HC HP2 HB4
    go_wp2_with fail
    rw [rounds_succ]
    obtain ⟨hy, hz⟩ := Kd.R_celln (0 : Int) HP3.out (L + 3) (by omega) (by omega)
    have HQ := Aside0.mk (Kd.R_putg HP3.out (L + 3) (v / 16777216 % 256))
    have HC := Aside0.mk (below_set (v := .int .u8 (v / 16777216 % 256)) (j := (L + 3).toNat) HB5.out (Kd.R_base HP3.out g rfl))
    go_wp2_with ((with_reducible refine gate_store (t := 5) (p := 42) rfl ?_); refine octet_put_uint32_put_stop ?_)
    unfold octet_put_uint32_stop
    refine store_event (t := 5) (p := 42) (v := .tmp 41) (w1 := w5.setCell ⟨g, (L + 3).toNat, none⟩ (.int .u8 (v / 16777216 % 256))) rfl rfl rfl (by first | (go_simp; done) | (go_simp; rfl)) ?_
    intro w6 hw
    have hq := HQ.out.1; rw [← hw] at hq; have HP4 := Aside0.mk hq; have hc := HC.out; rw [← hw] at hc; have HB6 := Aside0.mk hc; clear hq hc hw hy hz HQ HC HP3 HB5
    go_wp2_with fail
    rw [rounds_succ]
    go_wp2_with fail
    go_ret
    refine ⟨_, rfl, ?_, HB6.out⟩
    have e := HP4.out
    rw [← HY.out, octet_put_uint32.sets l zs L hL hzl, ← hzl] at e
    exact e
theorem octet_put_uint32.calls (A0 : Option Addr) (c0 : Nat) (l0 : List Int) (a1 : Int) (a2 : Int) (a3 : Bool) (r : List Int) (w : World) (hr0 : Kd.C (Kd.int .u8) w A0 l0.length l0) (hc0 : l0.length ≤ c0) (h : octet_put_uint32.f l0 a1 a2 a3 = some r) :
    Calls Tryd.prog 51 #[.slice A0 l0.length c0, .int .u32 a1, .int .i64 a2, .bool a3] w fun e w' => ∃ v0_ : Value, e = .returned (v0_) ∧ Kd.R (Kd.int .u8) 5 w' w.heap.size (fun _ => True) v0_ r ∧ Below w.heap.size w w' := by
  unfold octet_put_uint32.f at h
  by_cases c : a2 = 4 ∧ l0.length ≤ 140737488355316
  · rw [if_pos c] at h
    obtain rfl := Option.some.inj h
    obtain ⟨rfl, hl⟩ := c
    exact octet_put_uint32.any A0 c0 l0 a1 a3 w hr0 hc0 hl
  · rw [if_neg c] at h
    exact absurd h (by simp)

/-! ### octet_Put32: function 35 -/
def octet_Put32.f (l0 : List Int) (a1 : Int) (a2 : Bool) : Option (List Int) := (octet_put_uint32.f l0 a1 4 a2).bind fun t153 => (some t153)
set_option maxHeartbeats 8000000 in
set_option maxRecDepth 100000 in
theorem octet_Put32.calls (A0 : Option Addr) (c0 : Nat) (l0 : List Int) (a1 : Int) (a2 : Bool) (r : List Int) (w : World) (hr0 : Kd.C (Kd.int .u8) w A0 l0.length l0) (hc0 : l0.length ≤ c0) (h : octet_Put32.f l0 a1 a2 = some r) :
    Calls Tryd.prog 35 #[.slice A0 l0.length c0, .int .u32 a1, .bool a2] w fun e w' => ∃ v0_ : Value, e = .returned (v0_) ∧ Kd.R (Kd.int .u8) 5 w' w.heap.size (fun _ => True) v0_ r ∧ Below w.heap.size w w' := by
  have HR0 := Aside0.mk hr0
  have HC0 := Aside0.mk hc0
  clear hr0 hc0
  have HB := Aside0.mk (Below.refl w.heap.size w)
  have H : ((octet_put_uint32.f l0 a1 4 a2).bind fun t153 => (some t153)) = some r := h
  clear h
  replace H := Option.bind_eq_some_iff.mp H
  obtain ⟨t153, A40, H⟩ := H
  replace H : (some t153) = some r := H
  have A4 := Aside0.mk A40
  clear A40
  obtain rfl := Option.some.inj H
  go_enter Tryd.func35, Tryd.ntmps35
  go_wp2_with (first | ((with_reducible refine gate_callee (f := 51) rfl ?_); refine goesL_ (some 10) rfl rfl Tryd.func51 (by kernel_rfl) rfl #[.slice A0 l0.length c0, .int .u32 a1, .int .i64 4, .bool a2] rfl (by (try simp only [List.map_toArray, List.map_cons, List.map_nil]); first | done | rfl | (simp only [List.length_drop, List.length_take]; rfl)) ?_; (with_reducible refine (octet_put_uint32.calls _ _ l0 a1 4 a2 t153 _ ?side1 ?side2 A4.out).mono ?_); (case side1 => repeat (first | exact HR0.out | (with_reducible refine Kd.C_alloc ?_ _) | (with_reducible refine Kd.C_drewN ?_ _) | (with_reducible refine Kd.C_drew ?_))); (case side2 => exact HC0.out); rintro e w5 ⟨v154, rfl, ho0, hb⟩; refine ⟨_, rfl, ?_⟩; have n0_ := Aside0.mk (Kd.R_lower ho0 (below_size (by repeat (first | (with_reducible first | exact HB.out | apply below_alloc | apply pw_below_drewN | apply below_drew1) | exact HB.out)))); have n1_ := Aside0.mk (below_step (by repeat (first | (with_reducible first | exact HB.out | apply below_alloc | apply pw_below_drewN | apply below_drew1) | exact HB.out)) hb); clear HB; have HO155 := n0_; have HB := n1_; clear n0_ n1_; (try clear hb); (try clear hb2); (try clear hk); (try clear hi); (try clear ho0)))
  go_ret
  exact ⟨_, by first | rfl | (simp [errW_none, errW_some] <;> rfl) | (simp [*, errW_none, errW_some] <;> rfl), by (with_reducible repeat (first | apply Kd.R_alloc | apply Kd.R_drewN | apply Kd.R_drew)); exact HO155.out, by repeat (first | (with_reducible first | exact HB.out | apply below_alloc | apply pw_below_drewN | apply below_drew1) | exact HB.out)⟩

-- NOT PRINTED: function 73 (wkb_printer_word)

/-! ### octet_put_uint64: function 52, by hand -/
def octet_put_uint64.out (l : List Int) (v : Int) (le : Bool) : List Int := if le = true then l ++ [v % 256, v / 256 % 256, v / 65536 % 256, v / 16777216 % 256, v / 4294967296 % 256, v / 1099511627776 % 256, v / 281474976710656 % 256, v / 72057594037927936 % 256] else l ++ [v / 72057594037927936 % 256, v / 281474976710656 % 256, v / 1099511627776 % 256, v / 4294967296 % 256, v / 16777216 % 256, v / 65536 % 256, v / 256 % 256, v % 256]
def octet_put_uint64.f (l0 : List Int) (a1 : Int) (a2 : Int) (a3 : Bool) : Option (List Int) := if a2 = 8 ∧ l0.length ≤ 140737488355312 then some (octet_put_uint64.out l0 a1 a3) else none
theorem octet_put_uint64.sets (l zs : List Int) (L : Int) (hL : (l.length : Int) = L) (hz : zs.length = l.length + 8) (x0 x1 x2 x3 x4 x5 x6 x7 : Int) : (((((((((l.take zs.length ++ zs.drop l.length).set L.toNat x0).set (L + 1).toNat x1).set (L + 2).toNat x2).set (L + 3).toNat x3).set (L + 4).toNat x4).set (L + 5).toNat x5).set (L + 6).toNat x6).set (L + 7).toNat x7) = l ++ [x0, x1, x2, x3, x4, x5, x6, x7] := by
  subst hL
  have hd : (zs.drop l.length).length = 8 := by rw [List.length_drop]; omega
  obtain ⟨ws, hw⟩ : ∃ ws, zs.drop l.length = ws := ⟨_, rfl⟩
  rw [hw] at hd ⊢
  rw [List.take_of_length_le (by omega)]
  obtain ⟨y0, y1, y2, y3, y4, y5, y6, y7, rfl⟩ : ∃ y0 y1 y2 y3 y4 y5 y6 y7, ws = [y0, y1, y2, y3, y4, y5, y6, y7] := by
    match ws, hd with
    | [y0, y1, y2, y3, y4, y5, y6, y7], _ => exact ⟨y0, y1, y2, y3, y4, y5, y6, y7, rfl⟩
  rw [show ((l.length : Int)).toNat = l.length + 0 from by omega, List.set_append_right _ _ (by omega), Nat.add_sub_cancel_left]
  rw [show ((l.length : Int) + 1).toNat = l.length + 1 from by omega, List.set_append_right _ _ (by omega), Nat.add_sub_cancel_left]
  rw [show ((l.length : Int) + 2).toNat = l.length + 2 from by omega, List.set_append_right _ _ (by omega), Nat.add_sub_cancel_left]
  rw [show ((l.length : Int) + 3).toNat = l.length + 3 from by omega, List.set_append_right _ _ (by omega), Nat.add_sub_cancel_left]
  rw [show ((l.length : Int) + 4).toNat = l.length + 4 from by omega, List.set_append_right _ _ (by omega), Nat.add_sub_cancel_left]
  rw [show ((l.length : Int) + 5).toNat = l.length + 5 from by omega, List.set_append_right _ _ (by omega), Nat.add_sub_cancel_left]
  rw [show ((l.length : Int) + 6).toNat = l.length + 6 from by omega, List.set_append_right _ _ (by omega), Nat.add_sub_cancel_left]
  rw [show ((l.length : Int) + 7).toNat = l.length + 7 from by omega, List.set_append_right _ _ (by omega), Nat.add_sub_cancel_left]
  rfl
def octet_put_uint64_stop (p : Prop) : Prop := p
theorem octet_put_uint64_put_stop {p : Prop} (h : octet_put_uint64_stop p) : p := h
set_option maxHeartbeats 4000000 in
set_option maxRecDepth 100000 in
theorem octet_put_uint64.any (A0 : Option Addr) (c0 : Nat) (l : List Int) (v : Int) (le : Bool) (w : World) (hr0 : Kd.C (Kd.int .u8) w A0 l.length l) (hc0 : l.length ≤ c0) (hl : l.length ≤ 140737488355312) :
    Calls Tryd.prog 52 #[.slice A0 l.length c0, .int .u64 v, .int .i64 8, .bool le] w fun e w' => ∃ v0_ : Value, e = .returned (v0_) ∧ Kd.R (Kd.int .u8) 5 w' w.heap.size (fun _ => True) v0_ (octet_put_uint64.out l v le) ∧ Below w.heap.size w w' := by
  have HR0 := Aside0.mk hr0
  have HC0 := Aside0.mk hc0
  have HL := Aside0.mk hl
  have hn : wrap64 ((l.length : Int) + 8) = (l.length : Int) + 8 := by unfold wrap64; omega
  have HN := Aside0.mk hn
  clear hr0 hc0 hl hn
  go_enter Tryd.func52, Tryd.ntmps52
  go_wp2_with (first
    | ((with_reducible refine gate_dst (N := 17) rfl ?_); refine Kd.R_make (Kd.int .u8) (w0 := w) w.heap.size 5 rfl (N := 17) rfl 22 _ _ rfl (wrap64 ((l.length : Int) + 8)) rfl rfl Tryd.underlying22 (.int .u8 0) 1 info5 rfl (by decide) (by omega) 0 (ok := fun _ => True) (okp := fun _ => False) rfl (fun _ h => h.elim) True.intro (by have := HN.out; omega) ?aL (Below.refl _ _) (Nat.le_refl _) ?_; (case aL => have := HL.out; have := HN.out; omega)
       intro v1 w1 ho hb hg hat
       obtain ⟨zs, hzs, hzl⟩ : ∃ zs, List.replicate (wrap64 ((l.length : Int) + 8)).toNat (0 : Int) = zs ∧ zs.length = l.length + 8 := ⟨_, rfl, by rw [List.length_replicate, HN.out]; omega⟩
       rw [hzs] at ho
       obtain ⟨g, cap, rfl⟩ := Go.Proofs.YtiiolhnpnlmkjaaDoor.Math.R_shape ho hat
       have HO := Aside0.mk ho
       have HB := Aside0.mk hb
       have HZ := Aside0.mk hzs
       have HZL := Aside0.mk hzl
       clear ho hb hg hat hzs hzl)
    | ((with_reducible refine gate_builtin (b := .copy) (xs := #[.tmp 18, .tmp 19]) rfl ?_); refine Go.Proofs.YtiiolhnpnlmkjaaDoor.Math.R_copy (w0 := w) (base := w.heap.size) 0 rfl (.tmp 18) (.tmp 19) 22 rfl Tryd.underlying22 (e := 5) ?sz zs l A0 l.length c0 rfl rfl HO.out (Kd.C_below HR0.out HB.out) HB.out ?_; (case sz => kernel_rfl)
       intro w2 ho hb hg
       rw [show min l.length zs.length = l.length from by rw [HZL.out]; omega]
       have HP := Aside0.mk ho
       have HB2 := Aside0.mk hb
       clear ho hb hg))
  have hb0 := HL.out
  have hzl := HZL.out
  obtain ⟨ys, hys⟩ : ∃ ys, l.take zs.length ++ zs.drop l.length = ys := ⟨_, rfl⟩
  have HY := Aside0.mk hys
  have hp := HP.out
  rw [hys, hzl] at hp
  clear HP HO HB HZ hys
  have HP0 := Aside0.mk hp
  clear hp
  obtain ⟨L, hL⟩ : ∃ L : Int, (l.length : Int) = L := ⟨_, rfl⟩
  have q0 : wrap64 (L + 0) = L := by unfold wrap64; omega
  have q1 : wrap64 (L + 1) = L + 1 := by unfold wrap64; omega
  have q2 : wrap64 (L + 2) = L + 2 := by unfold wrap64; omega
  have q3 : wrap64 (L + 3) = L + 3 := by unfold wrap64; omega
  have q4 : wrap64 (L + 4) = L + 4 := by unfold wrap64; omega
  have q5 : wrap64 (L + 5) = L + 5 := by unfold wrap64; omega
  have q6 : wrap64 (L + 6) = L + 6 := by unfold wrap64; omega
  have q7 : wrap64 (L + 7) = L + 7 := by unfold wrap64; omega
  cases le
  · refine wp_loop_rounds 9 ?_
    rw [rounds_succ]
    obtain ⟨hy, hz⟩ := Kd.R_celln (0 : Int) HP0.out L (by omega) (by omega)
    have HQ := Aside0.mk (Kd.R_putg HP0.out L (v / 72057594037927936 % 256))
    have HC := Aside0.mk (below_set (v := .int .u8 (v / 72057594037927936 % 256)) (j := L.toNat) HB2.out (Kd.R_base HP0.out g rfl))
    go_wp2_with ((with_reducible refine gate_store (t := 5) (p := 42) rfl ?_); refine octet_put_uint64_put_stop ?_)
    unfold octet_put_uint64_stop
    refine store_event (t := 5) (p := 42) (v := .tmp 41) (w1 := w2.setCell ⟨g, L.toNat, none⟩ (.int .u8 (v / 72057594037927936 % 256))) rfl rfl rfl (by first | (go_simp; done) | (go_simp; rfl)) ?_
    intro w3 hw
    have hq := HQ.out.1; rw [← hw] at hq; have HP1 := Aside0.mk hq; have hc := HC.out; rw [← hw] at hc; have HB3 := Aside0.mk hc; clear hq hc hw hy hz HQ HC HP0 HB2
    go_wp2_with fail
    rw [rounds_succ]
    obtain ⟨hy, hz⟩ := Kd.R_celln (0 : Int) HP1.out (L + 1) (by omega) (by omega)
    have HQ := Aside0.mk (Kd.R_putg HP1.out (L + 1) (v / 281474976710656 % 256))
    have HC := Aside0.mk (below_set (v := .int .u8 (v / 281474976710656 % 256)) (j := (L + 1).toNat) HB3.out (Kd.R_base HP1.out g rfl))
    go_wp2_with ((with_reducible refine gate_store (t := 5) (p := 42) rfl ?_); refine octet_put_uint64_put_stop ?_)
    unfold octet_put_uint64_stop
    refine store_event (t := 5) (p := 42) (v := .tmp 41) (w1 := w3.setCell ⟨g, (L + 1).toNat, none⟩ (.int .u8 (v / 281474976710656 % 256))) rfl rfl rfl (by first | (go_simp; done) | (go_simp; rfl)) ?_
    intro w4 hw
    have hq := HQ.out.1; rw [← hw] at hq; have HP2 := Aside0.mk hq; have hc := HC.out; rw [← hw] at hc; have HB4 := Aside0.mk hc; clear hq hc hw hy hz HQ HC HP1 HB3
    go_wp2_with fail
    rw [rounds_succ]
    obtain ⟨hy, hz⟩ := Kd.R_celln (0 : Int) HP2.out (L + 2) (by omega) (by omega)
    have HQ := Aside0.mk (Kd.R_putg HP2.out (L + 2) (v / 1099511627776 % 256))
    have HC := Aside0.mk (below_set (v := .int .u8 (v / 1099511627776 % 256)) (j := (L + 2).toNat) HB4.out (Kd.R_base HP2.out g rfl))
    go_wp2_with ((with_reducible refine gate_store (t := 5) (p := 42) rfl ?_); refine octet_put_uint64_put_stop ?_)
    unfold octet_put_uint64_stop
    refine store_event (t := 5) (p := 42) (v := .tmp 41) (w1 := w4.setCell ⟨g, (L + 2).toNat, none⟩ (.int .u8 (v / 1099511627776 % 256))) rfl rfl rfl (by first | (go_simp; done) | (go_simp; rfl)) ?_
    intro w5 hw
    have hq := HQ.out.1; rw [← hw] at hq; have HP3 := Aside0.mk hq; have hc := HC.out; rw [← hw] at hc; have HB5 := Aside0.mk hc; clear hq hc hw hy hz HQ HC HP2 HB4
    go_wp2_with fail
    rw [rounds_succ]
    obtain ⟨hy, hz⟩ := Kd.R_celln (0 : Int) HP3.out (L + 3) (by omega) (by omega)
    have HQ := Aside0.mk (Kd.R_putg HP3.out (L + 3) (v / 4294967296 % 256))
    have HC := Aside0.mk (below_set (v := .int .u8 (v / 4294967296 % 256)) (j := (L + 3).toNat) HB5.out (Kd.R_base HP3.out g rfl))
    go_wp2_with ((with_reducible refine gate_store (t := 5) (p := 42) rfl ?_); refine octet_put_uint64_put_stop ?_)
    unfold octet_put_uint64_stop
    refine store_event (t := 5) (p := 42) (v := .tmp 41) (w1 := w5.setCell ⟨g, (L + 3).toNat, none⟩ (.int .u8 (v / 4294967296 % 256))) rfl rfl rfl (by first | (go_simp; done) | (go_simp; rfl)) ?_
    intro w6 hw
    have hq := HQ.out.1; rw [← hw] at hq; have HP4 := Aside0.mk hq; have hc := HC.out; rw [← hw] at hc; have HB6 := Aside0.mk hc; clear hq hc hw hy hz HQ HC HP3 HB5
    go_wp2_with fail
    rw [rounds_succ]
    obtain ⟨hy, hz⟩ := Kd.R_celln (0 : Int) HP4.out (L + 4) (by omega) (by omega)
    have HQ := Aside0.mk (Kd.R_putg HP4.out (L + 4) (v / 16777216 % 256))
    have HC := Aside0.mk (below_set (v := .int .u8 (v / 16777216 % 256)) (j := (L + 4).toNat) HB6.out (Kd.R_base HP4.out g rfl))
    go_wp2_with ((with_reducible refine gate_store (t := 5) (p := 42) rfl ?_); refine octet_put_uint64_put_stop ?_)
    unfold octet_put_uint64_stop
    refine store_event (t := 5) (p := 42) (v := .tmp 41) (w1 := w6.setCell ⟨g, (L + 4).toNat, none⟩ (.int .u8 (v / 16777216 % 256))) rfl rfl rfl (by first | (go_simp; done) | (go_simp; rfl)) ?_
    intro w7 hw
    have hq := HQ.out.1; rw [← hw] at hq; have HP5 := Aside0.mk hq; have hc := HC.out; rw [← hw] at hc; have HB7 := Aside0.mk hc; clear hq hc hw hy hz HQ HC HP4 HB6
    go_wp2_with fail
    rw [rounds_succ]
    obtain ⟨hy, hz⟩ := Kd.R_celln (0 : Int) HP5.out (L + 5) (by omega) (by omega)
    have HQ := Aside0.mk (Kd.R_putg HP5.out (L + 5) (v / 65536 % 256))
    have HC := Aside0.mk (below_set (v := .int .u8 (v / 65536 % 256)) (j := (L + 5).toNat) HB7.out (Kd.R_base HP5.out g rfl))
    go_wp2_with ((with_reducible refine gate_store (t := 5) (p := 42) rfl ?_); refine octet_put_uint64_put_stop ?_)
    unfold octet_put_uint64_stop
    refine store_event (t := 5) (p := 42) (v := .tmp 41) (w1 := w7.setCell ⟨g, (L + 5).toNat, none⟩ (.int .u8 (v / 65536 % 256))) rfl rfl rfl (by first | (go_simp; done) | (go_simp; rfl)) ?_
    intro w8 hw
    have hq := HQ.out.1; rw [← hw] at hq; have HP6 := Aside0.mk hq; have hc := HC.out; rw [← hw] at hc; have HB8 := Aside0.mk hc; clear hq hc hw hy hz HQ HC HP5 HB7
    go_wp2_with fail
    rw [rounds_succ]
    obtain ⟨hy, hz⟩ := Kd.R_celln (0 : Int) HP6.out (L + 6) (by omega) (by omega)
    have HQ := Aside0.mk (Kd.R_putg HP6.out (L + 6) (v / 256 % 256))
    have HC := Aside0.mk (below_set (v := .int .u8 (v / 256 % 256)) (j := (L + 6).toNat) HB8.out (Kd.R_base HP6.out g rfl))
    go_wp2_with ((with_reducible refine gate_store (t := 5) (p := 42) rfl ?_); refine octet_put_uint64_put_stop ?_)
    unfold octet_put_uint64_stop
    refine store_event (t := 5) (p := 42) (v := .tmp 41) (w1 := w8.setCell ⟨g, (L + 6).toNat, none⟩ (.int .u8 (v / 256 % 256))) rfl rfl rfl (by first | (go_simp; done) | (go_simp; rfl)) ?_
    intro w9 hw
    have hq := HQ.out.1; rw [← hw] at hq; have HP7 := Aside0.mk hq; have hc := HC.out; rw [← hw] at hc; have HB9 := Aside0.mk hc; clear hq hc hw hy hz HQ HC HP6 HB8
    go_wp2_with fail
    rw [rounds_succ]
    obtain ⟨hy, hz⟩ := Kd.R_celln (0 : Int) HP7.out (L + 7) (by omega) (by omega)
    have HQ := Aside0.mk (Kd.R_putg HP7.out (L + 7) (v % 256))
    have HC := Aside0.mk (below_set (v := .int .u8 (v % 256)) (j := (L + 7).toNat) HB9.out (Kd.R_base HP7.out g rfl))
    go_wp2_with ((with_reducible refine gate_store (t := 5) (p := 42) rfl ?_); refine octet_put_uint64_put_stop ?_)
    unfold octet_put_uint64_stop
    refine store_event (t := 5) (p := 42) (v := .tmp 41) (w1 := w9.setCell ⟨g, (L + 7).toNat, none⟩ (.int .u8 (v % 256))) rfl rfl rfl (by first | (go_simp; done) | (go_simp; rfl)) ?_
    intro w10 hw
    have hq := HQ.out.1; rw [← hw] at hq; have HP8 := Aside0.mk hq; have hc := HC.out; rw [← hw] at hc; have HB10 := Aside0.mk hc; clear hq hc hw hy hz HQ HC HP7 HB9
    go_wp2_with fail
    rw [rounds_succ]
    go_wp2_with fail
    go_ret
    refine ⟨_, rfl, ?_, HB10.out⟩
    have e := HP8.out
    rw [← HY.out, octet_put_uint64.sets l zs L hL hzl, ← hzl] at e
    exact e
  · refine wp_loop_rounds 9 ?_
    rw [rounds_succ]
    obtain ⟨hy, hz⟩ := Kd.R_celln (0 : Int) HP0.out L (by omega) (by omega)
    have HQ := Aside0.mk (Kd.R_putg HP0.out L (v % 256))
    have HC := Aside0.mk (below_set (v := .int .u8 (v % 256)) (j := L.toNat) HB2.out (Kd.R_base HP0.out g rfl))
    go_wp2_with ((with_reducible refine gate_store (t := 5) (p := 42) rfl ?_); refine octet_put_uint64_put_stop ?_)
    unfold octet_put_uint64_stop
    refine store_event (t := 5) (p := 42) (v := .tmp 41) (w1 := w2.setCell ⟨g, L.toNat, none⟩ (.int .u8 (v % 256))) rfl rfl rfl (by first | (go_simp; done) | (go_simp; rfl)) ?_
    intro w3 hw
    have hq := HQ.out.1; rw [← hw] at hq; have HP1 := Aside0.mk hq; have hc := HC.out; rw [← hw] at hc; have HB3 := Aside0.mk hc; clear hq hc hw hy hz HQ HC HP0 HB2
    go_wp2_with fail
    rw [rounds_succ]
    obtain ⟨hy, hz⟩ := Kd.R_celln (0 : Int) HP1.out (L + 1) (by omega) (by omega)
    have HQ := Aside0.mk (Kd.R_putg HP1.out (L + 1) (v / 256 % 256))
    have HC := Aside0.mk (below_set (v := .int .u8 (v / 256 % 256)) (j := (L + 1).toNat) HB3.out (Kd.R_base HP1.out g rfl))
    go_wp2_with ((with_reducible refine gate_store (t := 5) (p := 42) rfl ?_); refine octet_put_uint64_put_stop ?_)
    unfold octet_put_uint64_stop
    refine store_event (t := 5) (p := 42) (v := .tmp 41) (w1 := w3.setCell ⟨g, (L + 1).toNat, none⟩ (.int .u8 (v / 256 % 256))) rfl rfl rfl (by first | (go_simp; done) | (go_simp; rfl)) ?_
    intro w4 hw
    have hq := HQ.out.1; rw [← hw] at hq; have HP2 := Aside0.mk hq; have hc := HC.out; rw [← hw] at hc; have HB4 := Aside0.mk hc; clear hq hc hw hy hz HQ HC HP1 HB3
    go_wp2_with fail
    rw [rounds_succ]
    obtain ⟨hy, hz⟩ := Kd.R_celln (0 : Int) HP2.out (L + 2) (by omega) (by omega)
    have HQ := Aside0.mk (Kd.R_putg HP2.out (L + 2) (v / 65536 % 256))
    have HC := Aside0.mk (below_set (v := .int .u8 (v / 65536 % 256)) (j := (L + 2).toNat) HB4.out (Kd.R_base HP2.out g rfl))
    go_wp2_with ((with_reducible refine gate_store (t := 5) (p := 42) rfl ?_); refine octet_put_uint64_put_stop ?_)
    unfold octet_put_uint64_stop
    refine store_event (t := 5) (p := 42) (v := .tmp 41) (w1 := w4.setCell ⟨g, (L + 2).toNat, none⟩ (.int .u8 (v / 65536 % 256))) rfl rfl rfl (by first | (go_simp; done) | (go_simp; rfl)) ?_
    intro w5 hw
    have hq := HQ.out.1; rw [← hw] at hq; have HP3 := Aside0.mk hq; have hc := HC.out; rw [← hw] at hc; have HB5 := Aside0.mk hc; clear hq hc hw hy hz HQ HC HP2 HB4
    go_wp2_with fail
    rw [rounds_succ]
    obtain ⟨hy, hz⟩ := Kd.R_celln (0 : Int) HP3.out (L + 3) (by omega) (by omega)
    have HQ := Aside0.mk (Kd.R_putg HP3.out (L + 3) (v / 16777216 % 256))
    have HC := Aside0.mk (below_set (v := .int .u8 (v / 16777216 % 256)) (j := (L + 3).toNat) HB5.out (Kd.R_base HP3.out g rfl))
    go_wp2_with ((with_reducible refine gate_store (t := 5) (p := 42) rfl ?_); refine octet_put_uint64_put_stop ?_)
    unfold octet_put_uint64_stop
    refine store_event (t := 5) (p := 42) (v := .tmp 41) (w1 := w5.setCell ⟨g, (L + 3).toNat, none⟩ (.int .u8 (v / 16777216 % 256))) rfl rfl rfl (by first | (go_simp; done) | (go_simp; rfl)) ?_
    intro w6 hw
    have hq := HQ.out.1; rw [← hw] at hq; have HP4 := Aside0.mk hq; have hc := HC.out; rw [← hw] at hc; have HB6 := Aside0.mk hc; clear hq hc hw hy hz HQ HC HP3 HB5
    go_wp2_with fail
    rw [rounds_succ]
    obtain ⟨hy, hz⟩ := Kd.R_celln (0 : Int) HP4.out (L + 4) (by omega) (by omega)
    have HQ := Aside0.mk (Kd.R_putg HP4.out (L + 4) (v / 4294967296 % 256))
    have HC := Aside0.mk (below_set (v := .int .u8 (v / 4294967296 % 256)) (j := (L + 4).toNat) HB6.out (Kd.R_base HP4.out g rfl))
    go_wp2_with ((with_reducible refine gate_store (t := 5) (p := 42) rfl ?_); refine octet_put_uint64_put_stop ?_)
    unfold octet_put_uint64_stop
    refine store_event (t := 5) (p := 42) (v := .tmp 41) (w1 := w6.setCell ⟨g, (L + 4).toNat, none⟩ (.int .u8 (v / 4294967296 % 256))) rfl rfl rfl (by first | (go_simp; done) | (go_simp; rfl)) ?_
    intro w7 hw
    have hq := HQ.out.1; rw [← hw] at hq; have HP5 := Aside0.mk hq; have hc := HC.out; rw [← hw] at hc; have HB7 := Aside0.mk hc; clear hq hc hw hy hz HQ HC HP4 HB6
    go_wp2_with fail
    rw [rounds_succ]
    obtain ⟨hy, hz⟩ := Kd.R_celln (0 : Int) HP5.out (L + 5) (by omega) (by omega)
    have HQ := Aside0.mk (Kd.R_putg HP5.out (L + 5) (v / 1099511627776 % 256))
    have HC := Aside0.mk (below_set (v := .int .u8 (v / 1099511627776 % 256)) (j := (L + 5).toNat) HB7.out (Kd.R_base HP5.out g rfl))
    go_wp2_with ((with_reducible refine gate_store (t := 5) (p := 42) rfl ?_); refine octet_put_uint64_put_stop ?_)
    unfold octet_put_uint64_stop
    refine store_event (t := 5) (p := 42) (v := .tmp 41) (w1 := w7.setCell ⟨g, (L + 5).toNat, none⟩ (.int .u8 (v / 1099511627776 % 256))) rfl rfl rfl (by first | (go_simp; done) | (go_simp; rfl)) ?_
    intro w8 hw
    have hq := HQ.out.1; rw [← hw] at hq; have HP6 := Aside0.mk hq; have hc := HC.out; rw [← hw] at hc; have HB8 := Aside0.mk hc; clear hq hc hw hy hz HQ HC HP5 HB7
    go_wp2_with fail
    rw [rounds_succ]
    obtain ⟨hy, hz⟩ := Kd.R_celln (0 : Int) HP6.out (L + 6) (by omega) (by omega)
    have HQ := Aside0.mk (Kd.R_putg HP6.out (L + 6) (v / 281474976710656 % 256))
    have HC := Aside0.mk (below_set (v := .int .u8 (v / 281474976710656 % 256)) (j := (L + 6).toNat) HB8.out (Kd.R_base HP6.out g rfl))
    go_wp2_with ((with_reducible refine gate_store (t := 5) (p := 42) rfl ?_); refine octet_put_uint64_put_stop ?_)
    unfold octet_put_uint64_stop
    refine store_event (t := 5) (p := 42) (v := .tmp 41) (w1 := w8.setCell ⟨g, (L + 6).toNat, none⟩ (.int .u8 (v / 281474976710656 % 256))) rfl rfl rfl (by first | (go_simp; done) | (go_simp; rfl)) ?_
    intro w9 hw
    have hq := HQ.out.1; rw [← hw] at hq; have HP7 := Aside0.mk hq; have hc := HC.out; rw [← hw] at hc; have HB9 := Aside0.mk hc; clear hq hc hw hy hz HQ HC HP6 HB8
    go_wp2_with fail
    rw [rounds_succ]
    obtain ⟨hy, hz⟩ := Kd.R_celln (0 : Int) HP7.out (L + 7) (by omega) (by omega)
    have HQ := Aside0.mk (Kd.R_putg HP7.out (L + 7) (v / 72057594037927936 % 256))
    have HC := Aside0.mk (below_set (v := .int .u8 (v / 72057594037927936 % 256)) (j := (L + 7).toNat) HB9.out (Kd.R_base HP7.out g rfl))
    go_wp2_with ((with_reducible refine gate_store (t := 5) (p := 42) rfl ?_); refine octet_put_uint64_put_stop ?_)
    unfold octet_put_uint64_stop
    refine store_event (t := 5) (p := 42) (v := .tmp 41) (w1 := w9.setCell ⟨g, (L + 7).toNat, none⟩ (.int .u8 (v / 72057594037927936 % 256))) rfl rfl rfl (by first | (go_simp; done) | (go_simp; rfl)) ?_
    intro w10 hw
    have hq := HQ.out.1; rw [← hw] at hq; have HP8 := Aside0.mk hq; have hc := HC.out; rw [← hw] at hc; have HB10 := Aside0.mk hc; clear hq hc hw hy hz HQ HC HP7 HB9
    go_wp2_with fail
    rw [rounds_succ]
    go_wp2_with fail
    go_ret
    refine ⟨_, rfl, ?_, HB10.out⟩
    have e := HP8.out
    rw [← HY.out, octet_put_uint64.sets l zs L hL hzl, ← hzl] at e
    exact e
theorem octet_put_uint64.calls (A0 : Option Addr) (c0 : Nat) (l0 : List Int) (a1 : Int) (a2 : Int) (a3 : Bool) (r : List Int) (w : World) (hr0 : Kd.C (Kd.int .u8) w A0 l0.length l0) (hc0 : l0.length ≤ c0) (h : octet_put_uint64.f l0 a1 a2 a3 = some r) :
    Calls Tryd.prog 52 #[.slice A0 l0.length c0, .int .u64 a1, .int .i64 a2, .bool a3] w fun e w' => ∃ v0_ : Value, e = .returned (v0_) ∧ Kd.R (Kd.int .u8) 5 w' w.heap.size (fun _ => True) v0_ r ∧ Below w.heap.size w w' := by
  unfold octet_put_uint64.f at h
  by_cases c : a2 = 8 ∧ l0.length ≤ 140737488355312
  · rw [if_pos c] at h
    obtain rfl := Option.some.inj h
    obtain ⟨rfl, hl⟩ := c
    exact octet_put_uint64.any A0 c0 l0 a1 a3 w hr0 hc0 hl
  · rw [if_neg c] at h
    exact absurd h (by simp)

/-! ### octet_Put64: function 36 -/
def octet_Put64.f (l0 : List Int) (a1 : Int) (a2 : Bool) : Option (List Int) := (octet_put_uint64.f l0 a1 8 a2).bind fun t159 => (some t159)
set_option maxHeartbeats 8000000 in
set_option maxRecDepth 100000 in
theorem octet_Put64.calls (A0 : Option Addr) (c0 : Nat) (l0 : List Int) (a1 : Int) (a2 : Bool) (r : List Int) (w : World) (hr0 : Kd.C (Kd.int .u8) w A0 l0.length l0) (hc0 : l0.length ≤ c0) (h : octet_Put64.f l0 a1 a2 = some r) :
    Calls Tryd.prog 36 #[.slice A0 l0.length c0, .int .u64 a1, .bool a2] w fun e w' => ∃ v0_ : Value, e = .returned (v0_) ∧ Kd.R (Kd.int .u8) 5 w' w.heap.size (fun _ => True) v0_ r ∧ Below w.heap.size w w' := by
  have HR0 := Aside0.mk hr0
  have HC0 := Aside0.mk hc0
  clear hr0 hc0
  have HB := Aside0.mk (Below.refl w.heap.size w)
  have H : ((octet_put_uint64.f l0 a1 8 a2).bind fun t159 => (some t159)) = some r := h
  clear h
  replace H := Option.bind_eq_some_iff.mp H
  obtain ⟨t159, A40, H⟩ := H
  replace H : (some t159) = some r := H
  have A4 := Aside0.mk A40
  clear A40
  obtain rfl := Option.some.inj H
  go_enter Tryd.func36, Tryd.ntmps36
  go_wp2_with (first | ((with_reducible refine gate_callee (f := 52) rfl ?_); refine goesL_ (some 10) rfl rfl Tryd.func52 (by kernel_rfl) rfl #[.slice A0 l0.length c0, .int .u64 a1, .int .i64 8, .bool a2] rfl (by (try simp only [List.map_toArray, List.map_cons, List.map_nil]); first | done | rfl | (simp only [List.length_drop, List.length_take]; rfl)) ?_; (with_reducible refine (octet_put_uint64.calls _ _ l0 a1 8 a2 t159 _ ?side1 ?side2 A4.out).mono ?_); (case side1 => repeat (first | exact HR0.out | (with_reducible refine Kd.C_alloc ?_ _) | (with_reducible refine Kd.C_drewN ?_ _) | (with_reducible refine Kd.C_drew ?_))); (case side2 => exact HC0.out); rintro e w5 ⟨v160, rfl, ho0, hb⟩; refine ⟨_, rfl, ?_⟩; have n0_ := Aside0.mk (Kd.R_lower ho0 (below_size (by repeat (first | (with_reducible first | exact HB.out | apply below_alloc | apply pw_below_drewN | apply below_drew1) | exact HB.out)))); have n1_ := Aside0.mk (below_step (by repeat (first | (with_reducible first | exact HB.out | apply below_alloc | apply pw_below_drewN | apply below_drew1) | exact HB.out)) hb); clear HB; have HO161 := n0_; have HB := n1_; clear n0_ n1_; (try clear hb); (try clear hb2); (try clear hk); (try clear hi); (try clear ho0)))
  go_ret
  exact ⟨_, by first | rfl | (simp [errW_none, errW_some] <;> rfl) | (simp [*, errW_none, errW_some] <;> rfl), by (with_reducible repeat (first | apply Kd.R_alloc | apply Kd.R_drewN | apply Kd.R_drew)); exact HO161.out, by repeat (first | (with_reducible first | exact HB.out | apply below_alloc | apply pw_below_drewN | apply below_drew1) | exact HB.out)⟩

-- NOT PRINTED: function 74 (wkb_printer_points)

-- NOT PRINTED: function 46 (wkb_printer_geom)

-- NOT PRINTED: function 24 (wkb_Mixed)

-- NOT PRINTED: function 22 (wkb_Print)

end Go.Proofs.YtiiolhnpnlmkjaaDoor.PWkbPrints
