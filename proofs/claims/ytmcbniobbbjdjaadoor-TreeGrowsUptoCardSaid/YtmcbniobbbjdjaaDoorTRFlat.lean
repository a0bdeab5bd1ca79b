/- The reference's Flat by contract, at small trees. No conditions but those told. -/
import Derived.Test.YtmcbniobbbjdjaaDoorTRCheck
import Derived.Test.YtmcbniobbbjdjaaDoorTEqNodes
import Derived.Test.YtmcbniobbbjdjaaDoorTFlat
import Derived.Test.YtmcbniobbbjdjaaDoorTRoomy
import Derived.Test.YtmcbniobbbjdjaaDoorTGeos
namespace Go.Proofs.YtmcbniobbbjdjaaDoor.Tree
open Go.RowKit Go.Proofs.YtmcbniobbbjdjaaDoorW.PrintWords Go.Proofs.YtmcbniobbbjdjaaDoorW.PrintLast Go.Proofs.YtmcbniobbbjdjaaDoorW.PrintMore
set_option linter.unusedVariables false
set_option linter.unusedSimpArgs false
theorem scan_shaped : ∀ (l : List It) (k n : Nat), scanC k n l = none → ∀ x ∈ l, shapedB x = true := by
  intro l
  induction l with
  | nil => intro k n _ x hx; cases hx
  | cons y l ih =>
    intro k n h x hx
    rw [scanC_cons] at h
    split at h
    · rename_i h0
      rcases List.mem_cons.1 hx with rfl | hx
      · rw [wrong_eq] at h0
        by_cases hs : shapedB x = true
        · exact hs
        · exfalso
          rw [if_neg hs] at h0
          split at h0 <;> cases h0
      · exact ih _ _ h x hx
    · cases h
theorem shaped_kind {x : It} (h : shapedB x = true) : 1 ≤ x.f0.f0 ∧ x.f0.f0 ≤ 7 := by
  unfold shapedB kindB at h
  simp only [Bool.and_eq_true, decide_eq_true_iff] at h
  exact h.1
theorem shaped_own {x : It} (h : shapedB x = true) : own x.f0 = lineOf x.f0 := by
  by_cases h3 : x.f0.f0 = 3
  · rw [lineOf_3 h3]
  · rw [lineOf_o h3]
    rw [shaped_eq, Bool.and_eq_true] at h
    have hl := h.1
    unfold listsB at hl
    have hr : x.f0.f2.length = 0 := by
      by_cases h1 : x.f0.f0 = 1
      · rw [if_pos h1] at hl; simp at hl; simp [hl]
      · rw [if_neg h1] at hl
        by_cases h2 : x.f0.f0 = 2
        · rw [if_pos h2] at hl; simp at hl; simp [hl]
        · rw [if_neg h2, if_neg h3] at hl
          split at hl
          · simp at hl; simp [hl]
          · cases hl
    unfold own
    rw [List.length_eq_zero_iff.1 hr]
    simp
/-- What a round of the reference's Flat holds. -/
theorem IsG.rings {w : World} {a b d : Value} {A : Option Addr} {n m : Nat} {g : Ge} (h : IsG w (.agg #[a, b, .slice A n m, d]) g) : Kd.C (Kd.slice 65 kPt) w A g.f2.length g.f2 := by
  obtain ⟨_, _, _, _, _, _, e, _, _, _, h2, _, _⟩ := h
  cases e
  exact h2
/-- What a round of the reference's Flat holds, by name. -/
structure RF (w2 : World) (N gh gn : Nat) (hc nc : Array Value) (u vL : Value) (xs : List Nd) (L : List Pt) (W : World) : Prop where
  h : W.heap[gh]? = some (.cells hc 26 (0, 0))
  n : W.heap[gn]? = some (.cells nc 54 (0, 0))
  U : Kd.R kNd 54 W w2.heap.size (fun k => k < N) u xs
  L : Kd.R kPt 65 W w2.heap.size (fun k => N ≤ k) vL L
  B : Below w2.heap.size w2 W
theorem RF.below {w2 W W' : World} {N gh gn : Nat} {hc nc : Array Value} {u vL : Value} {xs : List Nd} {L : List Pt} (h : RF w2 N gh gn hc nc u vL xs L W) (hb : Below W.heap.size W W') : RF w2 N gh gn hc nc u vL xs L W' :=
  ⟨blk_below h.h hb, blk_below h.n hb, Kd.R_below h.U hb, Kd.R_below h.L hb, below_step h.B hb⟩
theorem RF.set1 {w2 W : World} {N gh gn : Nat} {hc : Array Value} {a b c v u vL : Value} {xs : List Nd} {L : List Pt} (h : RF w2 N gh gn hc #[a, b, c] u vL xs L W) (h1 : gh ≠ gn) (h2 : N ≤ gn) (h3 : w2.heap.size ≤ gn) : RF w2 N gh gn hc #[a, v, c] u vL xs L (W.setCell ⟨gn, 1, none⟩ v) :=
  ⟨blk_far h.h (p := ⟨gn, 1, none⟩) h1 _, by simpa using blk_set h.n 1 v, Kd.R_far (p := ⟨gn, 1, none⟩) h.U (fun k hk => by show k ≠ gn; omega) _, Kd.R_set h.L h.n (by decide) 1 _, h.B.setCell (p := ⟨gn, 1, none⟩) h3 _⟩
theorem RF.grown {w2 W W' : World} {N gh gn : Nat} {hc nc : Array Value} {u vL v : Value} {xs : List Nd} {L : List Pt} {l : List Int} {ok : Nat → Prop} (h : RF w2 N gh gn hc nc u vL xs L W) (hv : Kd.R (Kd.int .i64) 3 W w2.heap.size ok v l) (hok : ∀ k, ok k → N ≤ k) (hg : W.grownBy W' v.ownBlock) (hb : Below w2.heap.size w2 W') : RF w2 N gh gn hc nc u vL xs L W' :=
  ⟨blk_grown h.h hg (Kd.R_ne hv h.h (by decide)), blk_grown h.n hg (Kd.R_ne hv h.n (by decide)), Kd.R_grown h.U hg (fun k hk e => by have := hok _ (hv.1 k e.symm); omega), Kd.R_over' h.L (Kd.R_typed hv) (by decide) hg, hb⟩
def RFlatRes (w w' : World) (g : Ge) (u : Value) : Prop := match checkR g with
  | some _ => u = .slice none 0 0
  | none => Kd.R kNd 54 w' w.heap.size (fun _ => True) u ((nodes g 1 0).map fun y => nodeOf y.f0)
set_option maxRecDepth 100000 in
set_option maxHeartbeats 16000000 in
theorem rflat_calls (v : Value) (g : Ge) (w : World) (hv : IsG w v g) (hbk : g.bulk ≤ 2097152) (hsm : isSmall g = true) :
    Calls Tryd.prog 15 #[v] w fun e w' => ∃ u, e = .returned (.tuple #[u, .int .i64 (codeOf (checkR g)), .int .i64 (placeOf (checkR g))]) ∧ RFlatRes w w' g u ∧ Below w.heap.size w w' := by
  have hsn := seen_small hsm
  have hcnt := (isSmall_iff g).1 hsm
  have hv' := hv
  obtain ⟨A1, c1, A2, c2, A3, c3, rfl, l1, h1, l2, h2, l3, h3⟩ := hv'
  have hu := Tryd.underlying26
  have hun := Tryd.underlying54
  have hmx : Tryd.prog.follows .mixedOrders = true := by kernel_rfl
  have HV := Aside0.mk hv
  have HSN := Aside0.mk hsn
  clear h1 h2 h3 hv hsm hsn l1 l2 l3
  have HB := Aside0.mk (Below.refl w.heap.size w)
  go_enter Tryd.func15, Tryd.ntmps15
  go_wp2_with (first
    | ((with_reducible refine gate_dst (N := 1) rfl ?_); refine box_event ?hg (N := 1) ?hd (cs := #[.int .i64 g.f0, .slice A1 g.f1.length c1, .slice A2 g.f2.length c2, .slice A3 g.f3.length c3]) (t := 26) ?hr ?_; (case hd => rfl); (case hg => rfl); (case hr => first | (go_simp; done) | (go_simp; rfl)); intro gb_ hgb_ wb_ hbox_ hbb_; have GE := Aside0.mk (show w.heap.size ≤ gb_ from by rw [hgb_]; exact below_size (by repeat (first | (with_reducible first | exact HB.out | apply below_alloc | apply pw_below_drewN | apply below_drew1) | exact HB.out))); have n_ := Aside0.mk (below_step (by repeat (first | (with_reducible first | exact HB.out | apply below_alloc | apply pw_below_drewN | apply below_drew1) | exact HB.out)) hbb_); clear HB; have HB := n_; have BK := Aside0.mk hbox_; (have z0_ : wb_.cell? ⟨gb_, 0, none⟩ = some (.int .i64 g.f0) := (blk_cell BK.out 0).trans rfl; have z1_ : wb_.cell? ⟨gb_, 1, none⟩ = some (.slice A1 g.f1.length c1) := (blk_cell BK.out 1).trans rfl; have z2_ : wb_.cell? ⟨gb_, 2, none⟩ = some (.slice A2 g.f2.length c2) := (blk_cell BK.out 2).trans rfl; have z3_ : wb_.cell? ⟨gb_, 3, none⟩ = some (.slice A3 g.f3.length c3) := (blk_cell BK.out 3).trans rfl); clear n_ hbox_ hbb_ hgb_))
  refine (rcheck_calls _ g _ (HV.out.below HB.out) (by omega)).mono ?_
  rintro e w1 ⟨rfl, hb1⟩
  have BK1 := Aside0.mk (blk_below BK.out hb1)
  have HB1 := Aside0.mk (below_step HB.out hb1)
  clear hb1 BK HB GE z0_ z1_ z2_ z3_
  have HX := Aside0.mk (fun e (h : checkR g = some e) => rfl (a := e))
  cases hck : checkR g with
  | some er =>
    have hne : codeOf (some er) ≠ 0 := by
      have h : ∀ (l : List It) (k n : Nat) (e : Int × Int), scanC k n l = some e → e.2 ≠ 0 := by
        intro l
        induction l with
        | nil => intro k n e h; cases h
        | cons y l ih =>
          intro k n e h
          rw [scanC_cons] at h
          split at h
          · exact ih _ _ e h
          · rename_i h0; cases h; exact h0
      exact h _ _ _ er hck
    obtain ⟨cd, hcd⟩ : ∃ x, x = codeOf (some er) := ⟨_, rfl⟩
    obtain ⟨pl, hpl⟩ : ∃ x, x = placeOf (some er) := ⟨_, rfl⟩
    rw [← hcd] at hne ⊢
    rw [← hpl]
    have q0 : (cd == 0) = false := beq_eq_false_iff_ne.mpr hne
    have q1 : (cd != 0) = true := bne_iff_ne.mpr hne
    have HCK := Aside0.mk hck
    have HCD := Aside0.mk hcd
    have HPL := Aside0.mk hpl
    clear hck hcd hpl
    go_wp2_with fail
    go_ret3
    unfold RFlatRes
    rw [HCK.out, ← HCD.out, ← HPL.out]
    exact ⟨.slice none 0 0, rfl, rfl, HB1.out⟩
  | none =>
    have HSH := Aside0.mk (scan_shaped _ 0 0 hck)
    have HCK := Aside0.mk hck
    clear hck
    rw [show codeOf none = 0 from rfl, show placeOf none = -1 from rfl]
    clear HX
    have z0_ : w1.cell? ⟨gb_, 0, none⟩ = some (.int .i64 g.f0) := (blk_cell BK1.out 0).trans rfl
    have z1_ : w1.cell? ⟨gb_, 1, none⟩ = some (.slice A1 g.f1.length c1) := (blk_cell BK1.out 1).trans rfl
    have z2_ : w1.cell? ⟨gb_, 2, none⟩ = some (.slice A2 g.f2.length c2) := (blk_cell BK1.out 2).trans rfl
    have z3_ : w1.cell? ⟨gb_, 3, none⟩ = some (.slice A3 g.f3.length c3) := (blk_cell BK1.out 3).trans rfl
    go_wp2_with fail
    refine (items_calls w g _ 1 0 (.slice none 0 0) [] _ HV.out (by omega) (by omega) (by omega) HB1.out (Kd.R_nil _ _ _ _ _) (by simp)).mono ?_
    rintro e w2 ⟨v2, rfl, ho2, hb2, _⟩
    rw [List.nil_append] at ho2
    have hL : (seen g).length ≤ 65536 := by rw [HSN.out]; omega
    obtain ⟨A2', c2', e2⟩ := Kd.R_slice ho2
    change v2 = .slice A2' (seen g).length c2' at e2
    subst e2
    have HO := Aside0.mk (show Items w w2 _ (seen g) from ho2)
    clear HB1 ho2 BK1 z0_ z1_ z2_ z3_
    have HB2 := Aside0.mk hb2
    clear hb2
    go_wp2_with fail
    go_loopg [7, 9] (seen g).length (fun kq uu i wr => ∃ (k : Nat) (u : Value), u = uu ∧ k + kq = (seen g).length ∧ i = .int .i64 (k : Int) ∧ Aside0 (Kd.R kNd 54 wr w2.heap.size (fun _ => True) u (((seen g).take k).map fun y => nodeOf y.f0)) ∧ Aside0 (Below w2.heap.size w2 wr))
    case atStart => exact ⟨0, _, rfl, by omega, rfl, ⟨Kd.R_nil _ _ _ _ _⟩, ⟨Below.refl _ _⟩⟩
    case round =>
      obtain ⟨k, u, rfl, hk, rfl, HU, HK⟩ := hrel
      cases gk with
      | zero =>
        have hlt : ¬ ((k : Int) < ((seen g).length : Int)) := by omega
        obtain rfl : k = (seen g).length := by omega
        rw [List.take_length] at HU
        obtain ⟨AU, cU, eU⟩ := Kd.R_slice HU.out
        rw [List.length_map] at eU
        rw [eU] at HU ⊢
        clear eU
        go_wp2_with fail
        go_ret3
        rw [HCK.out]
        refine ⟨.slice AU (seen g).length cU, rfl, ?_, below_step HB2.out HK.out⟩
        unfold RFlatRes
        rw [HCK.out]
        have h := Kd.R_lower HU.out HB2.out.size
        rw [HSN.out] at h ⊢
        exact h
      | succ kq =>
        have hlt : k < (seen g).length := by omega
        have hlt' : (k : Int) < ((seen g).length : Int) := by omega
        have k0 : (0 : Int) ≤ (k : Int) := by omega
        obtain ⟨_, ad, ea, hI⟩ := HO.out.at_ k hlt
        subst ea
        have hm := nodes_bulk (seen_mem (List.getElem_mem hlt))
        have ho := own_len (seen g)[k].f0
        have HTK := Aside0.mk (show ((seen g).take (k + 1)).map (fun y => nodeOf y.f0) = (((seen g).take k).map fun y => nodeOf y.f0) ++ [nodeOf (seen g)[k].f0] by rw [List.take_succ_eq_append_getElem hlt, List.map_append]; rfl)
        have HSX := Aside0.mk (HSH.out _ (seen_mem (List.getElem_mem hlt)))
        obtain ⟨x, hx⟩ : ∃ x, x = (seen g)[k] := ⟨_, rfl⟩
        rw [← hx] at hI hm ho HTK HSX
        clear hx
        have hkd := shaped_kind HSX.out
        obtain ⟨xs, hxs⟩ : ∃ l, l = ((seen g).take k).map fun y => nodeOf y.f0 := ⟨_, rfl⟩
        have hxl : xs.length ≤ 65536 := by rw [hxs, List.length_map, List.length_take]; omega
        rw [← hxs] at HU HTK
        clear hxs
        obtain ⟨D1, d1, D2, d2, D3, d3, ⟨p0, p1, p2, p3, _, _⟩, hG⟩ := hI.below HK.out
        have HG := Aside0.mk hG
        have hb1 : x.f0.f1.length ≤ 2097152 := by have := x.f0.bulk_eq; omega
        have hb2 : x.f0.f2.length ≤ 2097152 := by have := x.f0.bulk_eq; omega
        have hb3 : x.f0.f3.length ≤ 2097152 := by have := bulks_len x.f0.f3; have := x.f0.bulk_eq; omega
        clear hI hG
        go_wp2_with fail
        obtain ⟨gh, hgh⟩ : ∃ y, y = wr.heap.size := ⟨_, rfl⟩
        obtain ⟨Wb, hWb⟩ : ∃ y, y = wr.alloc (.cells #[.int .i64 x.f0.f0, .slice D1 x.f0.f1.length d1, .slice D2 x.f0.f2.length d2, .slice D3 x.f0.f3.length d3] 26) := ⟨_, rfl⟩
        rw [← hWb, ← hgh]
        have kh : Wb.heap[gh]? = some (.cells #[.int .i64 x.f0.f0, .slice D1 x.f0.f1.length d1, .slice D2 x.f0.f2.length d2, .slice D3 x.f0.f3.length d3] 26 (0, 0)) := by rw [hWb, hgh]; exact World.alloc_heap_new _ _
        have hbb : Below wr.heap.size wr Wb := by rw [hWb]; exact below_alloc (Below.refl _ _) _
        have hub : Kd.R kNd 54 Wb w2.heap.size (fun j => j < gh) u xs := by rw [hgh]; exact Kd.R_below (Kd.R_mono (Kd.R_bound HU.out) (fun j hj => hj.2.2.1)) hbb
        have hBb : Below w2.heap.size w2 Wb := below_step HK.out hbb
        have hghw : w2.heap.size ≤ gh := by rw [hgh]; exact HK.out.size
        have HUL := Aside0.mk (show ∀ j, u.ownBlock = some j → j < gh by rw [hgh]; exact Kd.R_lt HU.out)
        clear hWb hgh HU HK hbb p0 p1 p2 p3
        refine start_ (n := 7) (S := fun w' => w'.cell? ⟨gh, 0, none⟩ = some (.int .i64 x.f0.f0) ∧ w'.cell? ⟨gh, 1, none⟩ = some (.slice D1 x.f0.f1.length d1) ∧ w'.cell? ⟨gh, 2, none⟩ = some (.slice D2 x.f0.f2.length d2) ∧ w'.cell? ⟨gh, 3, none⟩ = some (.slice D3 x.f0.f3.length d3) ∧ True) (ds := [6]) #[false, false, false, false, false, false, false] hmx rfl rfl ⟨(blk_cell (w := Wb.drew) kh 0).trans rfl, (blk_cell (w := Wb.drew) kh 1).trans rfl, (blk_cell (w := Wb.drew) kh 2).trans rfl, (blk_cell (w := Wb.drew) kh 3).trans rfl, trivial⟩ (fun hHeld => ?_)
        have KH := Aside0.mk (blk_below kh (below_drew (Below.refl Wb.heap.size Wb)))
        have HUB := Aside0.mk (Kd.R_drew hub)
        have HBB := Aside0.mk (below_drew hBb)
        have HSZ := Aside0.mk (show gh < Wb.drew.heap.size from blk_lt (w := Wb.drew) kh)
        clear kh hub hBb
        generalize Wb.drew = Wd at KH HUB HBB HSZ hHeld ⊢
        (refine pure_ (i := 0) (N := some 35) (v := ?_) (a' := ?_) #[true, false, false, false, false, false, false] rfl rfl (by kernel_rfl) (fun _ _ _ h => h) (Or.inl ⟨by rfl, ?_⟩) ?_ ?_; rotate_left; (focus (intro w'_; go_simp; with_reducible rfl)); rotate_left; (focus (simp only [Act.put, List.setIfInBounds_toArray, List.set_cons_zero, List.set_cons_succ]; rfl)))
        (refine take_ (i := 1) (N := some 36) (v := ?_) (a' := ?_) #[true, true, false, false, false, false, false] rfl rfl (by kernel_rfl) (fun _ _ _ h => h) (Or.inl ⟨by rfl, ?_⟩) hHeld ?_ ?_; rotate_left; (focus (intro w'_ hs_; (repeat obtain ⟨_, hs_⟩ := hs_); go_simp; with_reducible rfl)); rotate_left; (focus (simp only [Act.put, List.setIfInBounds_toArray, List.set_cons_zero, List.set_cons_succ]; rfl)))
        (refine take_ (i := 2) (N := some 37) (v := ?_) (a' := ?_) #[true, true, true, false, false, false, false] rfl rfl (by kernel_rfl) (fun _ _ _ h => h) (Or.inl ⟨by rfl, ?_⟩) hHeld ?_ ?_; rotate_left; (focus (intro w'_ hs_; (repeat obtain ⟨_, hs_⟩ := hs_); go_simp; with_reducible rfl)); rotate_left; (focus (simp only [Act.put, List.setIfInBounds_toArray, List.set_cons_zero, List.set_cons_succ]; rfl)))
        refine join_ (σ := Nat × Option Addr × Nat) 1 #[true, true, true, true, true, true, false] (fun s => [(38, .slice s.2.1 (own x.f0).length s.2.2), (39, .agg #[.int .i64 x.f0.f0, .slice none 0 0, .slice s.2.1 (own x.f0).length s.2.2]), (11, .pointer (some ⟨s.1, 0, none⟩))]) (fun s w' => Below Wd.heap.size Wd w' ∧ w'.heap[s.1]? = some (.cells #[.int .i64 0, .slice none 0 0, .slice none 0 0] 54 (0, 0)) ∧ Wd.heap.size ≤ s.1 ∧ Kd.R kPt 65 w' Wd.heap.size (fun _ => True) (.slice s.2.1 (own x.f0).length s.2.2) (own x.f0)) ?hcont ?hways
        case hways =>
          intro hcont
          refine two_ (i := 3) (j := 5) #[true, true, true, true, false, false, false] #[true, true, true, false, false, true, false] rfl rfl rfl rfl (by kernel_rfl) (by decide) (by decide) (fun K hK => ?_) (fun K hK => ?_)
          · refine goes_ Tryd.func27 (by kernel_rfl) rfl #[.agg #[.int .i64 x.f0.f0, .slice D1 x.f0.f1.length d1, .slice D2 x.f0.f2.length d2, .slice D3 x.f0.f3.length d3]] (by rfl) rfl rfl (by (try simp only [List.map_toArray, List.map_cons, List.map_nil]); first | done | rfl) ?_
            refine (rown_calls _ x.f0 Wd (HG.out.below (below_step HB2.out HBB.out)) (by omega)).mono ?_
            rintro e w3 ⟨v3, rfl, ho3, hb3⟩
            obtain ⟨A4, c4, e4⟩ := Kd.R_slice ho3
            subst e4
            refine ⟨_, rfl, hK.out _ _ ⟨(blk_cell (blk_below KH.out hb3) 0).trans rfl, (blk_cell (blk_below KH.out hb3) 1).trans rfl, (blk_cell (blk_below KH.out hb3) 2).trans rfl, (blk_cell (blk_below KH.out hb3) 3).trans rfl, trivial⟩ (fun hHeld2 => ?_)⟩
            clear hK K
            (refine norm_ (a' := ?_) ?_ ?_; rotate_left; focus (show Act.put _ (some 38) _ = _; simp only [Act.put, List.setIfInBounds_toArray, List.set_cons_zero, List.set_cons_succ]; rfl))
            (refine pure_ (i := 4) (N := some 39) (v := ?_) (a' := ?_) #[true, true, true, true, true, false, false] rfl rfl (by kernel_rfl) (fun _ _ _ h => h) (Or.inl ⟨by rfl, ?_⟩) ?_ ?_; rotate_left; (focus (intro w'_; go_simp; with_reducible rfl)); rotate_left; (focus (simp only [Act.put, List.setIfInBounds_toArray, List.set_cons_zero, List.set_cons_succ]; rfl)))
            refine one_ (i := 5) (N := some 11) #[true, true, true, true, true, true, false] rfl rfl (by kernel_rfl) (by decide) (fun K hK => ?_)
            (refine value_ (w1 := ?_) (v := ?_) (by rfl) rfl ?_ ?_; rotate_left 2; (focus (go_simp; constructor <;> rfl)))
            have hb4 : Below Wd.heap.size Wd (w3.alloc (.cells #[.int .i64 0, .slice none 0 0, .slice none 0 0] 54)) := below_alloc hb3 _
            refine hK.out _ _ ⟨(blk_cell (blk_below KH.out hb4) 0).trans rfl, (blk_cell (blk_below KH.out hb4) 1).trans rfl, (blk_cell (blk_below KH.out hb4) 2).trans rfl, (blk_cell (blk_below KH.out hb4) 3).trans rfl, trivial⟩ (fun hHeld3 => ?_)
            (have hh_ := (hcont (w3.heap.size, A4, c4) _ ⟨hb4, World.alloc_heap_new _ _, hb3.size, Kd.R_alloc ho3 _⟩); simp only [putAll, Act.put, List.setIfInBounds_toArray, List.set_cons_zero, List.set_cons_succ] at hh_ ⊢; exact hh_)
          · (refine value_ (w1 := ?_) (v := ?_) (by rfl) rfl ?_ ?_; rotate_left 2; (focus (go_simp; constructor <;> rfl)))
            have hb3 : Below Wd.heap.size Wd (Wd.alloc (.cells #[.int .i64 0, .slice none 0 0, .slice none 0 0] 54)) := below_alloc (Below.refl _ _) _
            have kz : (Wd.alloc (.cells #[.int .i64 0, .slice none 0 0, .slice none 0 0] 54)).heap[Wd.heap.size]? = some (.cells #[.int .i64 0, .slice none 0 0, .slice none 0 0] 54 (0, 0)) := World.alloc_heap_new _ _
            refine hK.out _ _ ⟨(blk_cell (blk_below KH.out hb3) 0).trans rfl, (blk_cell (blk_below KH.out hb3) 1).trans rfl, (blk_cell (blk_below KH.out hb3) 2).trans rfl, (blk_cell (blk_below KH.out hb3) 3).trans rfl, trivial⟩ (fun hHeld2 => ?_)
            clear hK K
            (refine norm_ (a' := ?_) ?_ ?_; rotate_left; focus (show Act.put _ (some 11) _ = _; simp only [Act.put, List.setIfInBounds_toArray, List.set_cons_zero, List.set_cons_succ]; rfl))
            refine one_ (i := 3) (N := some 38) #[true, true, true, true, false, true, false] rfl rfl (by kernel_rfl) (by decide) (fun K hK => ?_)
            refine goes_ Tryd.func27 (by kernel_rfl) rfl #[.agg #[.int .i64 x.f0.f0, .slice D1 x.f0.f1.length d1, .slice D2 x.f0.f2.length d2, .slice D3 x.f0.f3.length d3]] (by rfl) rfl rfl (by (try simp only [List.map_toArray, List.map_cons, List.map_nil]); first | done | rfl) ?_
            refine (rown_calls _ x.f0 _ (HG.out.below (below_step HB2.out (below_step HBB.out hb3))) (by omega)).mono ?_
            rintro e w3 ⟨v3, rfl, ho3, hb4⟩
            obtain ⟨A4, c4, e4⟩ := Kd.R_slice ho3
            subst e4
            have hb5 := below_step hb3 hb4
            refine ⟨_, rfl, hK.out _ _ ⟨(blk_cell (blk_below KH.out hb5) 0).trans rfl, (blk_cell (blk_below KH.out hb5) 1).trans rfl, (blk_cell (blk_below KH.out hb5) 2).trans rfl, (blk_cell (blk_below KH.out hb5) 3).trans rfl, trivial⟩ (fun hHeld3 => ?_)⟩
            clear hK K
            (refine norm_ (a' := ?_) ?_ ?_; rotate_left; focus (show Act.put _ (some 38) _ = _; simp only [Act.put, List.setIfInBounds_toArray, List.set_cons_zero, List.set_cons_succ]; rfl))
            (refine pure_ (i := 4) (N := some 39) (v := ?_) (a' := ?_) #[true, true, true, true, true, true, false] rfl rfl (by kernel_rfl) (fun _ _ _ h => h) (Or.inl ⟨by rfl, ?_⟩) ?_ ?_; rotate_left; (focus (intro w'_; go_simp; with_reducible rfl)); rotate_left; (focus (simp only [Act.put, List.setIfInBounds_toArray, List.set_cons_zero, List.set_cons_succ]; rfl)))
            (have hh_ := (hcont (Wd.heap.size, A4, c4) _ ⟨hb5, blk_below kz hb4, Nat.le_refl _, Kd.R_lower ho3 hb3.size⟩); simp only [putAll, Act.put, List.setIfInBounds_toArray, List.set_cons_zero, List.set_cons_succ] at hh_ ⊢; exact hh_)
        case hcont =>
          rintro ⟨gn, A4, c4⟩ w4 ⟨hb4, kz, hle, hl4⟩
          dsimp only at hb4 kz hle hl4
          refine norm_ (a' := ?_) ?_ ?_
          rotate_left
          · simp only [putAll, Act.put, List.setIfInBounds_toArray, List.set_cons_zero, List.set_cons_succ]; rfl
          refine last_ (i := 6) (N := none) #[true, true, true, true, true, true, true] rfl rfl (by kernel_rfl) (by decide) (fun K hK => ?_)
          have hs0 : w4.cell? ⟨gn, 0, none⟩ = some (.int .i64 0) := (blk_cell kz 0).trans rfl
          have hs1 : w4.cell? ⟨gn, 1, none⟩ = some (.slice none 0 0) := (blk_cell kz 1).trans rfl
          have hs2 : w4.cell? ⟨gn, 2, none⟩ = some (.slice none 0 0) := (blk_cell kz 2).trans rfl
          have hf0 := blk_frozen kz 0
          have hf1 := blk_frozen kz 1
          have hf2 := blk_frozen kz 2
          refine skip_ (w1 := ?_) (by rfl) rfl ?_ ?_
          rotate_left
          · go_simp
            rfl
          refine hK.out _ _ ?_
          clear hK K
          refine done_ (by kernel_rfl) ?_
          obtain ⟨W5, hW5⟩ : ∃ y, y = ((w4.setCell ⟨gn, 0, none⟩ (.int .i64 x.f0.f0)).setCell ⟨gn, 1, none⟩ (.slice none 0 0)).setCell ⟨gn, 2, none⟩ (.slice A4 (own x.f0).length c4) := ⟨_, rfl⟩
          rw [← hW5]
          have hgg : gh < gn := by have := HSZ.out; omega
          have RR := Aside0.mk (show RF w2 gh gh gn #[.int .i64 x.f0.f0, .slice D1 x.f0.f1.length d1, .slice D2 x.f0.f2.length d2, .slice D3 x.f0.f3.length d3] #[.int .i64 x.f0.f0, .slice none 0 0, .slice A4 (own x.f0).length c4] u (.slice A4 (own x.f0).length c4) xs (own x.f0) W5 by
            rw [hW5]
            have hq : w2.heap.size ≤ gn := by omega
            refine ⟨?_, ?_, ?_, ?_, ?_⟩
            · exact blk_far (p := ⟨gn, 2, none⟩) (blk_far (p := ⟨gn, 1, none⟩) (blk_far (p := ⟨gn, 0, none⟩) (blk_below KH.out hb4) (by show gh ≠ gn; omega) _) (by show gh ≠ gn; omega) _) (by show gh ≠ gn; omega) _
            · simpa using blk_set (blk_set (blk_set kz 0 (.int .i64 x.f0.f0)) 1 (.slice none 0 0)) 2 (.slice A4 (own x.f0).length c4)
            · exact Kd.R_far (p := ⟨gn, 2, none⟩) (Kd.R_far (p := ⟨gn, 1, none⟩) (Kd.R_far (p := ⟨gn, 0, none⟩) (Kd.R_below HUB.out hb4) (fun j hj => by show j ≠ gn; omega) _) (fun j hj => by show j ≠ gn; omega) _) (fun j hj => by show j ≠ gn; omega) _
            · have hl5 : Kd.R kPt 65 w4 w2.heap.size (fun j => gh ≤ j) (.slice A4 (own x.f0).length c4) (own x.f0) := Kd.R_lower (Kd.R_mono (Kd.R_bound hl4) (fun j hj => by have := hj.2.1; have := HSZ.out; omega)) HBB.out.size
              exact Kd.R_set (Kd.R_set (Kd.R_set hl5 kz (by decide) 0 _) (by simpa using blk_set kz 0 (.int .i64 x.f0.f0)) (by decide) 1 _) (by simpa using blk_set (blk_set kz 0 (.int .i64 x.f0.f0)) 1 (.slice none 0 0)) (by decide) 2 _
            · exact (((below_step HBB.out hb4).setCell (p := ⟨gn, 0, none⟩) hq _).setCell (p := ⟨gn, 1, none⟩) hq _).setCell (p := ⟨gn, 2, none⟩) hq _)
          clear hW5 hb4 kz hl4 hs0 hs1 hs2 hf0 hf1 hf2 KH HUB HBB HSZ hHeld hle
          have z0 : W5.cell? ⟨gh, 0, none⟩ = some (.int .i64 x.f0.f0) := (blk_cell RR.out.h 0).trans rfl
          have z1 : W5.cell? ⟨gh, 1, none⟩ = some (.slice D1 x.f0.f1.length d1) := (blk_cell RR.out.h 1).trans rfl
          have z2 : W5.cell? ⟨gh, 2, none⟩ = some (.slice D2 x.f0.f2.length d2) := (blk_cell RR.out.h 2).trans rfl
          have z3 : W5.cell? ⟨gh, 3, none⟩ = some (.slice D3 x.f0.f3.length d3) := (blk_cell RR.out.h 3).trans rfl
          have H2 := Aside0.mk (show Kd.C (Kd.slice 65 kPt) w2 D2 x.f0.f2.length x.f0.f2 from Kd.C_below (HG.out.rings) HB2.out)
          by_cases k2 : x.f0.f0 ≤ 2
          · have hsz := sizesOf_1 (g := x.f0) (by omega)
            have HSZ := Aside0.mk hsz
            clear hsz
            have rr := RR.out
            have n1 : (W5.alloc (.cells #[.int .i64 ((x.f0.f1.length : Int))] 3)).cell? ⟨gn, 1, none⟩ = some (.slice none 0 0) := (blk_cell (blk_alloc rr.n _) 1).trans rfl
            have nf1 : (W5.alloc (.cells #[.int .i64 ((x.f0.f1.length : Int))] 3)).frozen? ⟨gn, 1, none⟩ = false := blk_frozen (blk_alloc rr.n _) 1
            go_upto_region 19 with fail
            obtain ⟨v1, hv1⟩ : ∃ v, v = Value.slice (some ⟨W5.heap.size, 0, none⟩) 1 1 := ⟨_, rfl⟩
            obtain ⟨W6, hW6⟩ : ∃ y, y = (W5.alloc (.cells #[.int .i64 ((x.f0.f1.length : Int))] 3)).setCell ⟨gn, 1, none⟩ v1 := ⟨_, rfl⟩
            rw [← hv1, ← hW6]
            have HS6 := Aside0.mk (show Kd.R (Kd.int .i64) 3 W6 w2.heap.size (fun j => gh ≤ j) v1 (sizesOf x.f0) by
              have h := R_int1 W5 ((x.f0.f1.length : Int)) (base := w2.heap.size) rr.B.size (fun j => gh ≤ j) (by have := blk_lt rr.h; omega)
              rw [HSZ.out, hW6, hv1]
              exact Kd.R_set h (blk_alloc rr.n _) (by decide) 1 _)
            have RR6 := Aside0.mk (show RF w2 gh gh gn #[.int .i64 x.f0.f0, .slice D1 x.f0.f1.length d1, .slice D2 x.f0.f2.length d2, .slice D3 x.f0.f3.length d3] #[.int .i64 x.f0.f0, v1, .slice A4 (own x.f0).length c4] u (.slice A4 (own x.f0).length c4) xs (own x.f0) W6 by
              rw [hW6]
              exact (rr.below (below_alloc (Below.refl _ _) _)).set1 (by omega) (by omega) (by omega))
            clear hv1 hW6 rr n1 nf1 z0 z1 z2 z3 RR
            obtain ⟨S1, s1, es1⟩ := Kd.R_slice HS6.out
            have n0 : W6.cell? ⟨gn, 0, none⟩ = some (.int .i64 x.f0.f0) := (blk_cell RR6.out.n 0).trans rfl
            have n1 : W6.cell? ⟨gn, 1, none⟩ = some v1 := (blk_cell RR6.out.n 1).trans rfl
            have n2 : W6.cell? ⟨gn, 2, none⟩ = some (.slice A4 (own x.f0).length c4) := (blk_cell RR6.out.n 2).trans rfl
            subst es1
            obtain ⟨LS, hLS⟩ : ∃ n, n = (sizesOf x.f0).length := ⟨_, rfl⟩
            obtain ⟨LL, hLL⟩ : ∃ n, n = (own x.f0).length := ⟨_, rfl⟩
            have HMK := Aside0.mk (show kNd.M W6 w2.heap.size (fun j => gh ≤ j) (nodeOf x.f0) [.int .i64 x.f0.f0, .slice S1 LS s1, .slice A4 LL c4] by
              rw [hLS, hLL]
              have hl := RR6.out.L
              refine kNd_mkM W6 _ _ (nodeOf x.f0) HS6.out ?_
              show Kd.R kPt 65 W6 w2.heap.size (fun j => gh ≤ j) (.slice A4 (own x.f0).length c4) (lineOf x.f0)
              rw [← shaped_own HSX.out]
              exact hl)
            rw [← hLS] at n1
            rw [← hLL] at n2
            clear hLS hLL
            go_wp2_with ((with_reducible refine gate_builtin (b := .append) (xs := #[.tmp 76, .tmp 78]) rfl ?_); at_builtin; refine Kd.R_append kNd (w0 := w2) w2.heap.size rfl (.tmp 76) (.tmp 78) 37 54 (.agg #[.int .i64 0, .slice none 0 0, .slice none 0 0]) 56 rfl Tryd.underlying37 infoNd rfl (Nat.succ_pos _) (by omega) u xs (nodeOf x.f0) [.int .i64 x.f0.f0, .slice S1 LS s1, .slice A4 LL c4] (fun _ => True) (fun j => gh ≤ j) rfl rfl ?aP ?aK ?aF ?aO ?aB ?aS ?aL ?_; (case aP => exact HMK.out); (case aK => exact fun j h => ⟨trivial, fun e => by have := HUL.out j e.symm; omega⟩); (case aF => exact fun _ _ => trivial); (case aO => exact Kd.R_mono RR6.out.U (fun _ _ => trivial)); (case aB => exact RR6.out.B); (case aS => exact RR6.out.B.size); (case aL => omega); intro u2 W7 ho7 hb7 hg7 hat7; have HO7 := Aside0.mk ho7; have HB7 := Aside0.mk hb7; obtain ⟨AU2, cU2, eU2⟩ := Kd.R_slice ho7; rw [List.length_append, List.length_singleton] at eU2; subst eU2; clear ho7 hb7 hg7 hat7)
            go_roundg kq
            case measure => omega
            case rel => exact ⟨k + 1, _, rfl, by omega, by go_num, ⟨by rw [HTK.out]; exact HO7.out⟩, HB7⟩
          · by_cases k3 : x.f0.f0 = 3
            · have k3a : (x.f0.f0 == 3) = true := beq_iff_eq.mpr k3
              have HSZ := Aside0.mk (sizesOf_3 k3)
              clear k3
              go_wp2_with fail
              go_loopg [12] x.f0.f2.length (fun kj i wq => ∃ (j : Nat) (v1 : Value), j + kj = x.f0.f2.length ∧ i = .int .i64 (j : Int) ∧ Aside0 (Kd.R (Kd.int .i64) 3 wq w2.heap.size (fun j => gh ≤ j) v1 ((x.f0.f2.take j).map fun r => (r.length : Int))) ∧ Aside0 (RF w2 gh gh gn #[.int .i64 x.f0.f0, .slice D1 x.f0.f1.length d1, .slice D2 x.f0.f2.length d2, .slice D3 x.f0.f3.length d3] #[.int .i64 x.f0.f0, v1, .slice A4 (own x.f0).length c4] u (.slice A4 (own x.f0).length c4) xs (own x.f0) wq))
              case atStart => exact ⟨0, _, by omega, rfl, ⟨Kd.R_nil _ _ _ _ _⟩, RR⟩
              case round =>
                clear RR z0 z1 z2 z3
                obtain ⟨j, v1, hj, rfl, HSJ, RJ⟩ := hrel
                have z0 : wr.cell? ⟨gh, 0, none⟩ = some (.int .i64 x.f0.f0) := (blk_cell RJ.out.h 0).trans rfl
                have z1 : wr.cell? ⟨gh, 1, none⟩ = some (.slice D1 x.f0.f1.length d1) := (blk_cell RJ.out.h 1).trans rfl
                have z2 : wr.cell? ⟨gh, 2, none⟩ = some (.slice D2 x.f0.f2.length d2) := (blk_cell RJ.out.h 2).trans rfl
                have z3 : wr.cell? ⟨gh, 3, none⟩ = some (.slice D3 x.f0.f3.length d3) := (blk_cell RJ.out.h 3).trans rfl
                cases gk with
                | zero =>
                  have hjl : ¬ ((j : Int) < (x.f0.f2.length : Int)) := by omega
                  obtain rfl : j = x.f0.f2.length := by omega
                  rw [List.take_length, ← HSZ.out] at HSJ
                  go_upto_region 19 with fail
                  clear z0 z1 z2 z3
                  obtain ⟨S1, s1, es1⟩ := Kd.R_slice HSJ.out
                  have n0 : wr.cell? ⟨gn, 0, none⟩ = some (.int .i64 x.f0.f0) := (blk_cell RJ.out.n 0).trans rfl
                  have n1 : wr.cell? ⟨gn, 1, none⟩ = some v1 := (blk_cell RJ.out.n 1).trans rfl
                  have n2 : wr.cell? ⟨gn, 2, none⟩ = some (.slice A4 (own x.f0).length c4) := (blk_cell RJ.out.n 2).trans rfl
                  subst es1
                  obtain ⟨LS, hLS⟩ : ∃ n, n = (sizesOf x.f0).length := ⟨_, rfl⟩
                  obtain ⟨LL, hLL⟩ : ∃ n, n = (own x.f0).length := ⟨_, rfl⟩
                  have HMK := Aside0.mk (show kNd.M wr w2.heap.size (fun j => gh ≤ j) (nodeOf x.f0) [.int .i64 x.f0.f0, .slice S1 LS s1, .slice A4 LL c4] by
                    rw [hLS, hLL]
                    have hl := RJ.out.L
                    refine kNd_mkM wr _ _ (nodeOf x.f0) HSJ.out ?_
                    show Kd.R kPt 65 wr w2.heap.size (fun j => gh ≤ j) (.slice A4 (own x.f0).length c4) (lineOf x.f0)
                    rw [← shaped_own HSX.out]
                    exact hl)
                  rw [← hLS] at n1
                  rw [← hLL] at n2
                  clear hLS hLL
                  go_wp2_with ((with_reducible refine gate_builtin (b := .append) (xs := #[.tmp 76, .tmp 78]) rfl ?_); at_builtin; refine Kd.R_append kNd (w0 := w2) w2.heap.size rfl (.tmp 76) (.tmp 78) 37 54 (.agg #[.int .i64 0, .slice none 0 0, .slice none 0 0]) 56 rfl Tryd.underlying37 infoNd rfl (Nat.succ_pos _) (by omega) u xs (nodeOf x.f0) [.int .i64 x.f0.f0, .slice S1 LS s1, .slice A4 LL c4] (fun _ => True) (fun j => gh ≤ j) rfl rfl ?aP ?aK ?aF ?aO ?aB ?aS ?aL ?_; (case aP => exact HMK.out); (case aK => exact fun j h => ⟨trivial, fun e => by have := HUL.out j e.symm; omega⟩); (case aF => exact fun _ _ => trivial); (case aO => exact Kd.R_mono RJ.out.U (fun _ _ => trivial)); (case aB => exact RJ.out.B); (case aS => exact RJ.out.B.size); (case aL => omega); intro u2 W7 ho7 hb7 hg7 hat7; have HO7 := Aside0.mk ho7; have HB7 := Aside0.mk hb7; obtain ⟨AU2, cU2, eU2⟩ := Kd.R_slice ho7; rw [List.length_append, List.length_singleton] at eU2; subst eU2; clear ho7 hb7 hg7 hat7)
                  go_roundg kq
                  case measure => omega
                  case rel => exact ⟨k + 1, _, rfl, by omega, by go_num, ⟨by rw [HTK.out]; exact HO7.out⟩, HB7⟩
                | succ kj =>
                  have hjl : j < x.f0.f2.length := by omega
                  have hjl' : (j : Int) < (x.f0.f2.length : Int) := by omega
                  have j0 : (0 : Int) ≤ (j : Int) := by omega
                  obtain ⟨a2, A0, c0, ea2, hx2, hl2, _⟩ := at_L2 H2.out j (by omega) (by omega)
                  subst ea2
                  rw [rd_L2_at _ _ hjl, Int.toNat_natCast] at hx2
                  have HXC := Aside0.mk hx2
                  have HTJ := Aside0.mk (show ((x.f0.f2.take (j + 1)).map fun r => (r.length : Int)) = ((x.f0.f2.take j).map fun r => (r.length : Int)) ++ [((x.f0.f2[j].length : Nat) : Int)] by rw [List.take_succ_eq_append_getElem hjl, List.map_append]; rfl)
                  obtain ⟨r, hr⟩ : ∃ r, r = x.f0.f2[j] := ⟨_, rfl⟩
                  rw [← hr] at HXC HTJ
                  clear hr hx2 hl2
                  obtain ⟨ss, hss⟩ : ∃ l, l = (x.f0.f2.take j).map fun r => (r.length : Int) := ⟨_, rfl⟩
                  have hsl : ss.length ≤ 2097152 := by rw [hss, List.length_map, List.length_take]; omega
                  rw [← hss] at HSJ HTJ
                  clear hss
                  go_wp2_with fail
                  have q0 := RJ.out.below (below_drew (Below.refl _ _))
                  have s0 := Kd.R_drew HSJ.out
                  refine start_ (n := 12) (S := (fun w' => w'.cell? ⟨gn, 1, none⟩ = some v1 ∧ w'.cell? ⟨gh, 2, none⟩ = some (.slice (some a2) x.f0.f2.length d2) ∧ w'.cell? (a2.add j) = some (.slice A0 (r).length c0) ∧ True)) (ds := [11]) #[false, false, false, false, false, false, false, false, false, false, false, false] hmx rfl rfl ⟨(blk_cell q0.n 1).trans rfl, (blk_cell q0.h 2).trans rfl, cell_below q0.B HXC.out, trivial⟩ (fun hHeld => ?_)
                  clear RJ HSJ z0 z1 z2 z3
                  generalize wr.drew = wd at q0 s0 hHeld ⊢
                  (refine pure_ (i := 0) (N := some 65) (v := ?_) (a' := ?_) #[true, false, false, false, false, false, false, false, false, false, false, false] rfl rfl (by kernel_rfl) (fun _ _ _ h => h) (Or.inl ⟨by rfl, ?_⟩) ?_ ?_; rotate_left; (focus (intro w'_; go_simp; with_reducible rfl)); rotate_left; (focus (simp only [Act.put, List.setIfInBounds_toArray, List.set_cons_zero, List.set_cons_succ]; rfl)))
                  (refine pure_ (i := 2) (N := some 67) (v := ?_) (a' := ?_) #[true, false, true, false, false, false, false, false, false, false, false, false] rfl rfl (by kernel_rfl) (fun _ _ _ h => h) (Or.inl ⟨by rfl, ?_⟩) ?_ ?_; rotate_left; (focus (intro w'_; go_simp; with_reducible rfl)); rotate_left; (focus (simp only [Act.put, List.setIfInBounds_toArray, List.set_cons_zero, List.set_cons_succ]; rfl)))
                  (refine pure_ (i := 4) (N := some 69) (v := ?_) (a' := ?_) #[true, false, true, false, true, false, false, false, false, false, false, false] rfl rfl (by kernel_rfl) (fun _ _ _ h => h) (Or.inl ⟨by rfl, ?_⟩) ?_ ?_; rotate_left; (focus (intro w'_; go_simp; with_reducible rfl)); rotate_left; (focus (simp only [Act.put, List.setIfInBounds_toArray, List.set_cons_zero, List.set_cons_succ]; rfl)))
                  (refine take_ (i := 1) (N := some 66) (v := ?_) (a' := ?_) #[true, true, true, false, true, false, false, false, false, false, false, false] rfl rfl (by kernel_rfl) (fun _ _ _ h => h) (Or.inl ⟨by rfl, ?_⟩) hHeld ?_ ?_; rotate_left; (focus (intro w'_ hs_; (repeat obtain ⟨_, hs_⟩ := hs_); go_simp; with_reducible rfl)); rotate_left; (focus (simp only [Act.put, List.setIfInBounds_toArray, List.set_cons_zero, List.set_cons_succ]; rfl)))
                  (refine take_ (i := 3) (N := some 68) (v := ?_) (a' := ?_) #[true, true, true, true, true, false, false, false, false, false, false, false] rfl rfl (by kernel_rfl) (fun _ _ _ h => h) (Or.inl ⟨by rfl, ?_⟩) hHeld ?_ ?_; rotate_left; (focus (intro w'_ hs_; (repeat obtain ⟨_, hs_⟩ := hs_); go_simp; with_reducible rfl)); rotate_left; (focus (simp only [Act.put, List.setIfInBounds_toArray, List.set_cons_zero, List.set_cons_succ]; rfl)))
                  (refine pure_ (i := 5) (N := some 70) (v := ?_) (a' := ?_) #[true, true, true, true, true, true, false, false, false, false, false, false] rfl rfl (by kernel_rfl) (fun _ _ _ h => h) (Or.inl ⟨by rfl, ?_⟩) ?_ ?_; rotate_left; (focus (intro w'_; go_simp; with_reducible rfl)); rotate_left; (focus (simp only [Act.put, List.setIfInBounds_toArray, List.set_cons_zero, List.set_cons_succ]; rfl)))
                  (refine take_ (i := 6) (N := some 71) (v := ?_) (a' := ?_) #[true, true, true, true, true, true, true, false, false, false, false, false] rfl rfl (by kernel_rfl) (fun _ _ _ h => h) (Or.inl ⟨by rfl, ?_⟩) hHeld ?_ ?_; rotate_left; (focus (intro w'_ hs_; (repeat obtain ⟨_, hs_⟩ := hs_); go_simp; with_reducible rfl)); rotate_left; (focus (simp only [Act.put, List.setIfInBounds_toArray, List.set_cons_zero, List.set_cons_succ]; rfl)))
                  (refine pure_ (i := 7) (N := some 72) (v := ?_) (a' := ?_) #[true, true, true, true, true, true, true, true, false, false, false, false] rfl rfl (by kernel_rfl) (fun _ _ _ h => h) (Or.inl ⟨by rfl, ?_⟩) ?_ ?_; rotate_left; (focus (intro w'_; go_simp; with_reducible rfl)); rotate_left; (focus (simp only [Act.put, List.setIfInBounds_toArray, List.set_cons_zero, List.set_cons_succ]; rfl)))
                  refine one_ (i := 8) (N := some 73) #[true, true, true, true, true, true, true, true, true, false, false, false] rfl rfl (by kernel_rfl) (by decide) (fun K hK => ?_)
                  (refine value_ (w1 := ?_) (v := ?_) (by rfl) rfl ?_ ?_; rotate_left 2; (focus (go_simp; constructor <;> rfl)))
                  have q1 := q0.below (below_alloc (Below.refl _ wd) (.cells #[.int .i64 (r.length : Int)] 3))
                  refine hK.out _ _ ⟨(blk_cell q1.n 1).trans rfl, (blk_cell q1.h 2).trans rfl, cell_below q1.B HXC.out, trivial⟩ (fun hHeld2 => ?_)
                  clear hK K q1
                  (refine norm_ (a' := ?_) ?_ ?_; rotate_left; focus (show Act.put _ (some 73) _ = _; simp only [Act.put, List.setIfInBounds_toArray, List.set_cons_zero, List.set_cons_succ]; rfl))
                  refine one_ (i := 9) (N := some 74) #[true, true, true, true, true, true, true, true, true, true, false, false] rfl rfl (by kernel_rfl) (by decide) (fun K hK => ?_)
                  refine Kd.R_append_step (Kd.int .i64) (w0 := w2) w2.heap.size (by rfl) (.tmp 66) (.tmp 73) 52 3 (.int .i64 0) 8 rfl Tryd.underlying52 infoI rfl (Nat.succ_pos _) (by omega) v1 ss (r.length : Int) [.int .i64 (r.length : Int)] (fun j => gh ≤ j) (fun _ => False) rfl rfl ?aP ?aK ?aF ?aO ?aB ?aS ?aL ?_
                  case aP => exact rfl
                  case aK => exact fun _ h => h.elim
                  case aF => exact fun j h => by have := blk_lt q0.h; omega
                  case aO => exact s0
                  case aB => exact q0.B
                  case aS => exact q0.B.size
                  case aL => omega
                  intro v3 we ho3 hb3 hg3 hat3
                  have q2 := q0.grown s0 (fun j h => h) hg3 hb3
                  obtain ⟨S3, s3, e3⟩ := Kd.R_slice ho3
                  obtain ⟨TT, hTT⟩ : ∃ l, l = ss ++ [(r.length : Int)] := ⟨_, rfl⟩
                  rw [← hTT] at ho3 e3 HTJ
                  subst e3
                  clear s0 q0 hg3 hb3 hat3 hTT
                  refine hK.out _ _ ⟨(blk_cell q2.n 1).trans rfl, (blk_cell q2.h 2).trans rfl, cell_below q2.B HXC.out, trivial⟩ (fun hHeld => ?_)
                  clear hK K hHeld2
                  (refine norm_ (a' := ?_) ?_ ?_; rotate_left; focus (show Act.put _ (some 74) _ = _; simp only [Act.put, List.setIfInBounds_toArray, List.set_cons_zero, List.set_cons_succ]; rfl))
                  (refine pure_ (i := 10) (N := some 75) (v := ?_) (a' := ?_) #[true, true, true, true, true, true, true, true, true, true, true, false] rfl rfl (by kernel_rfl) (fun _ _ _ h => h) (Or.inl ⟨by rfl, ?_⟩) ?_ ?_; rotate_left; (focus (intro w'_; go_simp; with_reducible rfl)); rotate_left; (focus (simp only [Act.put, List.setIfInBounds_toArray, List.set_cons_zero, List.set_cons_succ]; rfl)))
                  refine last_ (i := 11) (N := none) #[true, true, true, true, true, true, true, true, true, true, true, true] rfl rfl (by kernel_rfl) (by decide) (fun K hK => ?_)
                  have hs0 : we.cell? ⟨gn, 1, none⟩ = some v1 := (blk_cell q2.n 1).trans rfl
                  have hf0 := blk_frozen q2.n 1
                  refine skip_ (w1 := ?_) (by rfl) rfl ?_ ?_
                  rotate_left
                  · go_simp
                    rfl
                  refine hK.out _ _ ?_
                  clear hK K
                  refine done_ (by kernel_rfl) ?_
                  have q3 := q2.set1 (v := .slice S3 TT.length s3) (by omega) (by omega) (by omega)
                  have s4 := Kd.R_set ho3 q2.n (by decide) 1 (.slice S3 TT.length s3)
                  obtain ⟨v4, hv4⟩ : ∃ v, v = Value.slice S3 TT.length s3 := ⟨_, rfl⟩
                  rw [← hv4] at q3 s4 ⊢
                  clear hv4 q2 ho3 hs0 hf0 hHeld
                  go_wp2_with fail
                  go_roundg kj
                  case measure => omega
                  case rel => exact ⟨j + 1, v4, by omega, by go_num, ⟨by rw [HTJ.out]; exact s4⟩, ⟨q3⟩⟩
            · have k3a : (x.f0.f0 == 3) = false := beq_eq_false_iff_ne.mpr k3
              have HSZ := Aside0.mk (sizesOf_4 (g := x.f0) (by omega) (by omega) k3)
              have rr := RR.out
              have n1 : (W5.alloc (.cells #[.int .i64 ((x.f0.f3.length : Int))] 3)).cell? ⟨gn, 1, none⟩ = some (.slice none 0 0) := (blk_cell (blk_alloc rr.n _) 1).trans rfl
              have nf1 : (W5.alloc (.cells #[.int .i64 ((x.f0.f3.length : Int))] 3)).frozen? ⟨gn, 1, none⟩ = false := blk_frozen (blk_alloc rr.n _) 1
              go_upto_region 19 with fail
              obtain ⟨v1, hv1⟩ : ∃ v, v = Value.slice (some ⟨W5.heap.size, 0, none⟩) 1 1 := ⟨_, rfl⟩
              obtain ⟨W6, hW6⟩ : ∃ y, y = (W5.alloc (.cells #[.int .i64 ((x.f0.f3.length : Int))] 3)).setCell ⟨gn, 1, none⟩ v1 := ⟨_, rfl⟩
              rw [← hv1, ← hW6]
              have HS6 := Aside0.mk (show Kd.R (Kd.int .i64) 3 W6 w2.heap.size (fun j => gh ≤ j) v1 (sizesOf x.f0) by
                have h := R_int1 W5 ((x.f0.f3.length : Int)) (base := w2.heap.size) rr.B.size (fun j => gh ≤ j) (by have := blk_lt rr.h; omega)
                rw [HSZ.out, hW6, hv1]
                exact Kd.R_set h (blk_alloc rr.n _) (by decide) 1 _)
              have RR6 := Aside0.mk (show RF w2 gh gh gn #[.int .i64 x.f0.f0, .slice D1 x.f0.f1.length d1, .slice D2 x.f0.f2.length d2, .slice D3 x.f0.f3.length d3] #[.int .i64 x.f0.f0, v1, .slice A4 (own x.f0).length c4] u (.slice A4 (own x.f0).length c4) xs (own x.f0) W6 by
                rw [hW6]
                exact (rr.below (below_alloc (Below.refl _ _) _)).set1 (by omega) (by omega) (by omega))
              clear hv1 hW6 rr n1 nf1 z0 z1 z2 z3 RR
              obtain ⟨S1, s1, es1⟩ := Kd.R_slice HS6.out
              have n0 : W6.cell? ⟨gn, 0, none⟩ = some (.int .i64 x.f0.f0) := (blk_cell RR6.out.n 0).trans rfl
              have n1 : W6.cell? ⟨gn, 1, none⟩ = some v1 := (blk_cell RR6.out.n 1).trans rfl
              have n2 : W6.cell? ⟨gn, 2, none⟩ = some (.slice A4 (own x.f0).length c4) := (blk_cell RR6.out.n 2).trans rfl
              subst es1
              obtain ⟨LS, hLS⟩ : ∃ n, n = (sizesOf x.f0).length := ⟨_, rfl⟩
              obtain ⟨LL, hLL⟩ : ∃ n, n = (own x.f0).length := ⟨_, rfl⟩
              have HMK := Aside0.mk (show kNd.M W6 w2.heap.size (fun j => gh ≤ j) (nodeOf x.f0) [.int .i64 x.f0.f0, .slice S1 LS s1, .slice A4 LL c4] by
                rw [hLS, hLL]
                have hl := RR6.out.L
                refine kNd_mkM W6 _ _ (nodeOf x.f0) HS6.out ?_
                show Kd.R kPt 65 W6 w2.heap.size (fun j => gh ≤ j) (.slice A4 (own x.f0).length c4) (lineOf x.f0)
                rw [← shaped_own HSX.out]
                exact hl)
              rw [← hLS] at n1
              rw [← hLL] at n2
              clear hLS hLL
              go_wp2_with ((with_reducible refine gate_builtin (b := .append) (xs := #[.tmp 76, .tmp 78]) rfl ?_); at_builtin; refine Kd.R_append kNd (w0 := w2) w2.heap.size rfl (.tmp 76) (.tmp 78) 37 54 (.agg #[.int .i64 0, .slice none 0 0, .slice none 0 0]) 56 rfl Tryd.underlying37 infoNd rfl (Nat.succ_pos _) (by omega) u xs (nodeOf x.f0) [.int .i64 x.f0.f0, .slice S1 LS s1, .slice A4 LL c4] (fun _ => True) (fun j => gh ≤ j) rfl rfl ?aP ?aK ?aF ?aO ?aB ?aS ?aL ?_; (case aP => exact HMK.out); (case aK => exact fun j h => ⟨trivial, fun e => by have := HUL.out j e.symm; omega⟩); (case aF => exact fun _ _ => trivial); (case aO => exact Kd.R_mono RR6.out.U (fun _ _ => trivial)); (case aB => exact RR6.out.B); (case aS => exact RR6.out.B.size); (case aL => omega); intro u2 W7 ho7 hb7 hg7 hat7; have HO7 := Aside0.mk ho7; have HB7 := Aside0.mk hb7; obtain ⟨AU2, cU2, eU2⟩ := Kd.R_slice ho7; rw [List.length_append, List.length_singleton] at eU2; subst eU2; clear ho7 hb7 hg7 hat7)
              go_roundg kq
              case measure => omega
              case rel => exact ⟨k + 1, _, rfl, by omega, by go_num, ⟨by rw [HTK.out]; exact HO7.out⟩, HB7⟩
theorem scan_none : ∀ (l : List It) (k n : Nat), l ≠ [] → scanC k n l = none → n + l.length + ptsOf l ≤ 65536 := by
  intro l
  induction l with
  | nil => intro k n h; exact absurd rfl h
  | cons x l ih =>
    intro k n _ h
    rw [scanC_cons] at h
    split at h
    · rename_i h0
      have h1 : n + 1 + (own x.f0).length ≤ 65536 := by
        rcases Nat.lt_or_ge 65536 (n + 1 + (own x.f0).length) with h2 | h2
        · exact absurd h0 (wrong_many x _ (by omega))
        · exact h2
      rw [List.length_cons, ptsOf_cons]
      cases l with
      | nil => simp [ptsOf]; omega
      | cons y l => have := ih _ _ (by simp) h; omega
    · cases h
theorem check_big {g : Ge} (h : isSmall g = false) : ∃ e, checkR g = some e := by
  cases hc : checkR g with
  | some e => exact ⟨e, rfl⟩
  | none =>
    have h1 := scan_none (nodes g 1 0) 0 0 (by rw [nodes_eq]; simp) hc
    have h2 := (isSmall_iff g).2 (by omega)
    rw [h] at h2
    cases h2
def flatL (g : Ge) : List Nd := match checkR g with
  | some _ => []
  | none => (nodes g 1 0).map fun y => nodeOf y.f0
theorem FlatRes.got {w w' : World} {g : Ge} {u ev : Value} (h : FlatRes w w' g u ev) : Kd.R kNd 54 w' w.heap.size (fun _ => True) u (flatL g) ∧ ErrV w' ev (checkR g) := by
  unfold FlatRes at h
  unfold flatL
  cases hc : checkR g with
  | some e => rw [hc] at h; obtain ⟨rfl, h⟩ := h; exact ⟨Kd.R_nil _ _ _ _ _, h⟩
  | none => rw [hc] at h; exact h
theorem RFlatRes.got {w w' : World} {g : Ge} {u : Value} (h : RFlatRes w w' g u) : Kd.R kNd 54 w' w.heap.size (fun _ => True) u (flatL g) := by
  unfold RFlatRes at h
  unfold flatL
  cases hc : checkR g with
  | some e => rw [hc] at h; subst h; exact Kd.R_nil _ _ _ _ _
  | none => rw [hc] at h; exact h
theorem flatL_len (g : Ge) : (flatL g).length ≤ g.bulk := by
  unfold flatL
  split
  · simp
  · rw [List.length_map, ← geos_len]; have := pts_bulk g; omega
theorem flatL_mem {g : Ge} {x : Nd} (h : x ∈ flatL g) : x.f1.length ≤ g.bulk + 1 ∧ x.f2.length ≤ g.bulk := by
  unfold flatL at h
  split at h
  · cases h
  · obtain ⟨y, hy, rfl⟩ := List.mem_map.1 h
    have h1 := nodes_bulk hy
    have h2 := y.f0.bulk_eq
    have h3 := own_len y.f0
    refine ⟨?_, ?_⟩
    · show (sizesOf y.f0).length ≤ _
      unfold sizesOf
      split
      · simp
      · split
        · rw [List.length_map]; omega
        · simp
    · show (lineOf y.f0).length ≤ _
      unfold lineOf
      split <;> omega
end Go.Proofs.YtmcbniobbbjdjaaDoor.Tree
