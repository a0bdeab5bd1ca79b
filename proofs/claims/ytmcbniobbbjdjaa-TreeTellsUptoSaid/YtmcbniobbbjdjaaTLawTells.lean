/- The law TreeTells by contract, at trees that weigh no more than the bound. No conditions but those told. -/
import Derived.Test.YtmcbniobbbjdjaaTSmall
import Derived.Test.YtmcbniobbbjdjaaTAlive
import Derived.Test.YtmcbniobbbjdjaaTRoomy
import Derived.Test.YtmcbniobbbjdjaaTKept
import Derived.Test.YtmcbniobbbjdjaaTRTells
namespace Go.Proofs.Ytmcbniobbbjdjaa.Tree
open Go.RowKit Go.Proofs.YtmcbniobbbjdjaaW.PrintWords Go.Proofs.YtmcbniobbbjdjaaW.PrintLast Go.Proofs.YtmcbniobbbjdjaaW.PrintMore
set_option linter.unusedVariables false
set_option linter.unusedSimpArgs false
/-- Two boxes of a walk of a law: the tree, and a roomy tree. -/
structure TwoB (w : World) (gb gh : Nat) (gc hc : Array Value) (n : Nat) (g : Ge) (v u : Value) (W : World) : Prop where
  b : W.heap[gb]? = some (.cells gc 26 (0, 0))
  h : W.heap[gh]? = some (.cells hc 26 (0, 0))
  G : IsG W v g
  H : RoomyAt n W u g
  B : Below w.heap.size w W
theorem TwoB.below {w W W' : World} {gb gh n : Nat} {gc hc : Array Value} {g : Ge} {v u : Value} (h : TwoB w gb gh gc hc n g v u W) (hb : Below W.heap.size W W') : TwoB w gb gh gc hc n g v u W' :=
  ⟨blk_below h.b hb, blk_below h.h hb, h.G.below hb, h.H.below hb, below_step h.B hb⟩
set_option maxRecDepth 100000 in
set_option maxHeartbeats 4000000 in
theorem tells_calls (v : Value) (g : Ge) (w : World) (hv : IsG w v g) (hbk : g.bulk ≤ 1048576) :
    Calls Try.prog 4 #[v] w fun e w' => e = .returned (.bool true) ∧ Below w.heap.size w w' := by
  have HV := Aside0.mk hv
  obtain ⟨A1, c1, A2, c2, A3, c3, rfl, l1, h1, l2, h2, l3, h3⟩ := hv
  have hu := Try.underlying26
  clear h1 h2 h3
  have HB := Aside0.mk (Below.refl w.heap.size w)
  have hmx : Try.prog.follows .mixedOrders = true := by kernel_rfl
  go_enter Try.func4, Try.ntmps4
  go_wp2_with (first
    | ((with_reducible refine gate_dst (N := 1) rfl ?_); refine box_event ?hg (N := 1) ?hd (cs := #[.int .i64 g.f0, .slice A1 g.f1.length c1, .slice A2 g.f2.length c2, .slice A3 g.f3.length c3]) (t := 26) ?hr ?_; (case hd => rfl); (case hg => rfl); (case hr => first | (go_simp; done) | (go_simp; rfl)); intro gb_ hgb_ wb_ hbox_ hbb_; have GE := Aside0.mk (show w.heap.size ≤ gb_ from by rw [hgb_]; exact below_size (by repeat (first | (with_reducible first | exact HB.out | apply below_alloc | apply pw_below_drewN | apply below_drew1) | exact HB.out))); have n_ := Aside0.mk (below_step (by repeat (first | (with_reducible first | exact HB.out | apply below_alloc | apply pw_below_drewN | apply below_drew1) | exact HB.out)) hbb_); clear HB; have HB := n_; have BK := Aside0.mk hbox_; (have z0_ : wb_.cell? ⟨gb_, 0, none⟩ = some (.int .i64 g.f0) := (blk_cell BK.out 0).trans rfl; have z1_ : wb_.cell? ⟨gb_, 1, none⟩ = some (.slice A1 g.f1.length c1) := (blk_cell BK.out 1).trans rfl; have z2_ : wb_.cell? ⟨gb_, 2, none⟩ = some (.slice A2 g.f2.length c2) := (blk_cell BK.out 2).trans rfl; have z3_ : wb_.cell? ⟨gb_, 3, none⟩ = some (.slice A3 g.f3.length c3) := (blk_cell BK.out 3).trans rfl); clear n_ hbox_ hbb_ hgb_))
  have HV1 := Aside0.mk (HV.out.below HB.out)
  refine (small_calls _ g _ HV1.out (by omega)).mono ?_
  rintro e w1 ⟨rfl, hb1⟩
  have BK1 := Aside0.mk (blk_below BK.out hb1)
  have HG1 := Aside0.mk (HV1.out.below hb1)
  have HB1 := Aside0.mk (below_step HB.out hb1)
  clear hb1 BK HB HV1 z0_ z1_ z2_ z3_
  have z0_ : w1.cell? ⟨gb_, 0, none⟩ = some (.int .i64 g.f0) := (blk_cell BK1.out 0).trans rfl
  have z1_ : w1.cell? ⟨gb_, 1, none⟩ = some (.slice A1 g.f1.length c1) := (blk_cell BK1.out 1).trans rfl
  have z2_ : w1.cell? ⟨gb_, 2, none⟩ = some (.slice A2 g.f2.length c2) := (blk_cell BK1.out 2).trans rfl
  have z3_ : w1.cell? ⟨gb_, 3, none⟩ = some (.slice A3 g.f3.length c3) := (blk_cell BK1.out 3).trans rfl
  cases isSmall g with
  | false =>
    go_wp2_with fail
    refine (alive_calls w1).mono ?_
    rintro e w2 ⟨rfl, hb2⟩
    have HB2 := Aside0.mk (below_step HB1.out hb2)
    clear hb2
    go_wp2_with fail
    go_ret
    exact ⟨rfl, HB2.out⟩
  | true =>
    go_wp2_with fail
    refine (roomy_calls g.bulk _ g w1 HG1.out (Nat.le_refl _) (by omega)).mono ?_
    rintro e w2 ⟨cs, rfl, hM, hb2⟩
    have hK := (kRm g.bulk).K_of_M hM
    obtain ⟨E1, e1, E2, e2, E3, e3, rfl, _⟩ := kGe_open (kRm_isK _ _ _ _ hK)
    have HBK2 := Aside0.mk (blk_below BK1.out hb2)
    have HG2 := Aside0.mk (HG1.out.below hb2)
    have HB2 := Aside0.mk (below_step HB1.out hb2)
    have HR2 := Aside0.mk (show RoomyAt g.bulk w2 (.agg #[.int .i64 g.f0, .slice E1 g.f1.length e1, .slice E2 g.f2.length e2, .slice E3 g.f3.length e3]) g from ⟨_, rfl, hK⟩)
    clear hM hK hb2 BK1 HG1 HB1 z0_ z1_ z2_ z3_
    go_wp2_with fail
    obtain ⟨gh, hgh⟩ : ∃ x, x = w2.heap.size := ⟨_, rfl⟩
    obtain ⟨W3, hW3⟩ : ∃ x, x = w2.alloc (.cells #[.int .i64 g.f0, .slice E1 g.f1.length e1, .slice E2 g.f2.length e2, .slice E3 g.f3.length e3] 26) := ⟨_, rfl⟩
    rw [← hW3, ← hgh]
    have T3 := Aside0.mk (show TwoB w gb_ gh #[.int .i64 g.f0, .slice A1 g.f1.length c1, .slice A2 g.f2.length c2, .slice A3 g.f3.length c3] #[.int .i64 g.f0, .slice E1 g.f1.length e1, .slice E2 g.f2.length e2, .slice E3 g.f3.length e3] g.bulk g (.agg #[.int .i64 g.f0, .slice A1 g.f1.length c1, .slice A2 g.f2.length c2, .slice A3 g.f3.length c3]) (.agg #[.int .i64 g.f0, .slice E1 g.f1.length e1, .slice E2 g.f2.length e2, .slice E3 g.f3.length e3]) W3 by
      rw [hW3, hgh]
      have hb := below_alloc (Below.refl w2.heap.size w2) (.cells #[.int .i64 g.f0, .slice E1 g.f1.length e1, .slice E2 g.f2.length e2, .slice E3 g.f3.length e3] 26)
      exact ⟨blk_alloc HBK2.out _, World.alloc_heap_new _ _, HG2.out.below hb, HR2.out.below hb, below_alloc HB2.out _⟩)
    clear hW3 hgh HBK2 HG2 HR2 HB2
    refine (count_calls _ g W3 T3.out.H.isG (by omega)).mono ?_
    rintro e w4 ⟨rfl, hb4⟩
    have T4 := Aside0.mk (T3.out.below hb4)
    clear hb4 T3
    have z0_ : w4.cell? ⟨gb_, 0, none⟩ = some (.int .i64 g.f0) := (blk_cell T4.out.b 0).trans rfl
    have z1_ : w4.cell? ⟨gb_, 1, none⟩ = some (.slice A1 g.f1.length c1) := (blk_cell T4.out.b 1).trans rfl
    have z2_ : w4.cell? ⟨gb_, 2, none⟩ = some (.slice A2 g.f2.length c2) := (blk_cell T4.out.b 2).trans rfl
    have z3_ : w4.cell? ⟨gb_, 3, none⟩ = some (.slice A3 g.f3.length c3) := (blk_cell T4.out.b 3).trans rfl
    have y0_ : w4.cell? ⟨gh, 0, none⟩ = some (.int .i64 g.f0) := (blk_cell T4.out.h 0).trans rfl
    have y1_ : w4.cell? ⟨gh, 1, none⟩ = some (.slice E1 g.f1.length e1) := (blk_cell T4.out.h 1).trans rfl
    have y2_ : w4.cell? ⟨gh, 2, none⟩ = some (.slice E2 g.f2.length e2) := (blk_cell T4.out.h 2).trans rfl
    have y3_ : w4.cell? ⟨gh, 3, none⟩ = some (.slice E3 g.f3.length e3) := (blk_cell T4.out.h 3).trans rfl
    go_wp2_with fail
    refine (rcount_calls g.bulk _ g w4 T4.out.G (Nat.le_refl _) (by omega)).mono ?_
    rintro e w5 ⟨rfl, hb5⟩
    have T5 := Aside0.mk (T4.out.below hb5)
    clear hb5 T4
    clear z0_ z1_ z2_ z3_ y0_ y1_ y2_ y3_
    have z0_ : w5.cell? ⟨gb_, 0, none⟩ = some (.int .i64 g.f0) := (blk_cell T5.out.b 0).trans rfl
    have z1_ : w5.cell? ⟨gb_, 1, none⟩ = some (.slice A1 g.f1.length c1) := (blk_cell T5.out.b 1).trans rfl
    have z2_ : w5.cell? ⟨gb_, 2, none⟩ = some (.slice A2 g.f2.length c2) := (blk_cell T5.out.b 2).trans rfl
    have z3_ : w5.cell? ⟨gb_, 3, none⟩ = some (.slice A3 g.f3.length c3) := (blk_cell T5.out.b 3).trans rfl
    have y0_ : w5.cell? ⟨gh, 0, none⟩ = some (.int .i64 g.f0) := (blk_cell T5.out.h 0).trans rfl
    have y1_ : w5.cell? ⟨gh, 1, none⟩ = some (.slice E1 g.f1.length e1) := (blk_cell T5.out.h 1).trans rfl
    have y2_ : w5.cell? ⟨gh, 2, none⟩ = some (.slice E2 g.f2.length e2) := (blk_cell T5.out.h 2).trans rfl
    have y3_ : w5.cell? ⟨gh, 3, none⟩ = some (.slice E3 g.f3.length e3) := (blk_cell T5.out.h 3).trans rfl
    go_wp2_with fail
    refine (points_calls _ g w5 T5.out.H.isG (by omega)).mono ?_
    rintro e w6 ⟨up, rfl, hp6, hb6⟩
    obtain ⟨P1, p1, ep⟩ := Kd.R_slice hp6
    rw [← allPts_nodes] at hp6 ep
    subst ep
    have HP6 := Aside0.mk hp6
    have T6 := Aside0.mk (T5.out.below hb6)
    have n1 : (nodes g 1 0).length = (geos g).length := (geos_len g).symm
    have n2 : ptsOf (nodes g 1 0) = (allPts g).length := by rw [allPts_nodes, ptsAll_len]
    rw [n1, n2]
    clear hb6 hp6 T5 n1 n2
    clear z0_ z1_ z2_ z3_ y0_ y1_ y2_ y3_
    have z0_ : w6.cell? ⟨gb_, 0, none⟩ = some (.int .i64 g.f0) := (blk_cell T6.out.b 0).trans rfl
    have z1_ : w6.cell? ⟨gb_, 1, none⟩ = some (.slice A1 g.f1.length c1) := (blk_cell T6.out.b 1).trans rfl
    have z2_ : w6.cell? ⟨gb_, 2, none⟩ = some (.slice A2 g.f2.length c2) := (blk_cell T6.out.b 2).trans rfl
    have z3_ : w6.cell? ⟨gb_, 3, none⟩ = some (.slice A3 g.f3.length c3) := (blk_cell T6.out.b 3).trans rfl
    have y0_ : w6.cell? ⟨gh, 0, none⟩ = some (.int .i64 g.f0) := (blk_cell T6.out.h 0).trans rfl
    have y1_ : w6.cell? ⟨gh, 1, none⟩ = some (.slice E1 g.f1.length e1) := (blk_cell T6.out.h 1).trans rfl
    have y2_ : w6.cell? ⟨gh, 2, none⟩ = some (.slice E2 g.f2.length e2) := (blk_cell T6.out.h 2).trans rfl
    have y3_ : w6.cell? ⟨gh, 3, none⟩ = some (.slice E3 g.f3.length e3) := (blk_cell T6.out.h 3).trans rfl
    go_wp2_with fail
    refine start_ (n := 30) (S := (fun w' => w'.cell? ⟨gb_, 0, none⟩ = some (.int .i64 g.f0) ∧ w'.cell? ⟨gb_, 1, none⟩ = some (.slice A1 g.f1.length c1) ∧ w'.cell? ⟨gb_, 2, none⟩ = some (.slice A2 g.f2.length c2) ∧ w'.cell? ⟨gb_, 3, none⟩ = some (.slice A3 g.f3.length c3) ∧ w'.cell? ⟨gh, 0, none⟩ = some (.int .i64 g.f0) ∧ w'.cell? ⟨gh, 1, none⟩ = some (.slice E1 g.f1.length e1) ∧ w'.cell? ⟨gh, 2, none⟩ = some (.slice E2 g.f2.length e2) ∧ w'.cell? ⟨gh, 3, none⟩ = some (.slice E3 g.f3.length e3) ∧ True)) (ds := []) #[false, false, false, false, false, false, false, false, false, false, false, false, false, false, false, false, false, false, false, false, false, false, false, false, false, false, false, false, false, false] hmx rfl rfl ⟨(blk_cell (w := w6.drew) T6.out.b 0).trans rfl, (blk_cell (w := w6.drew) T6.out.b 1).trans rfl, (blk_cell (w := w6.drew) T6.out.b 2).trans rfl, (blk_cell (w := w6.drew) T6.out.b 3).trans rfl, (blk_cell (w := w6.drew) T6.out.h 0).trans rfl, (blk_cell (w := w6.drew) T6.out.h 1).trans rfl, (blk_cell (w := w6.drew) T6.out.h 2).trans rfl, (blk_cell (w := w6.drew) T6.out.h 3).trans rfl, trivial⟩ (fun hHeld => ?_)
    have T7 := Aside0.mk (show TwoB w gb_ gh #[.int .i64 g.f0, .slice A1 g.f1.length c1, .slice A2 g.f2.length c2, .slice A3 g.f3.length c3] #[.int .i64 g.f0, .slice E1 g.f1.length e1, .slice E2 g.f2.length e2, .slice E3 g.f3.length e3] g.bulk g (.agg #[.int .i64 g.f0, .slice A1 g.f1.length c1, .slice A2 g.f2.length c2, .slice A3 g.f3.length c3]) (.agg #[.int .i64 g.f0, .slice E1 g.f1.length e1, .slice E2 g.f2.length e2, .slice E3 g.f3.length e3]) w6.drew from T6.out.below (below_drew (Below.refl _ _)))
    have HP7 := Aside0.mk (Kd.R_drew HP6.out)
    clear T6 HP6
    clear z0_ z1_ z2_ z3_ y0_ y1_ y2_ y3_
    generalize w6.drew = W7 at T7 HP7 hHeld ⊢
    refine one_ (i := 0) (N := some 27) #[true, false, false, false, false, false, false, false, false, false, false, false, false, false, false, false, false, false, false, false, false, false, false, false, false, false, false, false, false, false] rfl rfl (by kernel_rfl) (by decide) (fun K hK => ?_)
    refine goes_ Try.func9 (by kernel_rfl) rfl #[] (by rfl) rfl rfl (by (try simp only [List.map_toArray, List.map_cons, List.map_nil]); first | done | rfl) ?_
    refine (alive_calls W7).mono ?_
    rintro e W8 ⟨rfl, hb8⟩
    have T8 := Aside0.mk (T7.out.below hb8)
    have HP8 := Aside0.mk (Kd.R_below HP7.out hb8)
    refine ⟨_, rfl, hK.out _ _ ⟨(blk_cell T8.out.b 0).trans rfl, (blk_cell T8.out.b 1).trans rfl, (blk_cell T8.out.b 2).trans rfl, (blk_cell T8.out.b 3).trans rfl, (blk_cell T8.out.h 0).trans rfl, (blk_cell T8.out.h 1).trans rfl, (blk_cell T8.out.h 2).trans rfl, (blk_cell T8.out.h 3).trans rfl, trivial⟩ (fun hHeld8 => ?_)⟩
    clear hK K T7 HP7 hb8
    (refine norm_ (a' := ?_) ?_ ?_; rotate_left; focus (show Act.put _ (some 27) _ = _; simp only [Act.put, List.setIfInBounds_toArray, List.set_cons_zero, List.set_cons_succ]; rfl))
    (refine pure_ (i := 1) (N := some 28) (v := ?_) (a' := ?_) #[true, true, false, false, false, false, false, false, false, false, false, false, false, false, false, false, false, false, false, false, false, false, false, false, false, false, false, false, false, false] rfl rfl (by kernel_rfl) (fun _ _ _ h => h) (Or.inl ⟨by rfl, ?_⟩) ?_ ?_; rotate_left; (focus (intro w'_; go_simp; with_reducible rfl)); rotate_left; (focus (simp only [Act.put, List.setIfInBounds_toArray, List.set_cons_zero, List.set_cons_succ]; rfl)))
    (refine take_ (i := 2) (N := some 29) (v := ?_) (a' := ?_) #[true, true, true, false, false, false, false, false, false, false, false, false, false, false, false, false, false, false, false, false, false, false, false, false, false, false, false, false, false, false] rfl rfl (by kernel_rfl) (fun _ _ _ h => h) (Or.inl ⟨by rfl, ?_⟩) hHeld8 ?_ ?_; rotate_left; (focus (intro w'_ hs_; (repeat obtain ⟨_, hs_⟩ := hs_); go_simp; with_reducible rfl)); rotate_left; (focus (simp only [Act.put, List.setIfInBounds_toArray, List.set_cons_zero, List.set_cons_succ]; rfl)))
    (refine take_ (i := 4) (N := some 31) (v := ?_) (a' := ?_) #[true, true, true, false, true, false, false, false, false, false, false, false, false, false, false, false, false, false, false, false, false, false, false, false, false, false, false, false, false, false] rfl rfl (by kernel_rfl) (fun _ _ _ h => h) (Or.inl ⟨by rfl, ?_⟩) hHeld8 ?_ ?_; rotate_left; (focus (intro w'_ hs_; (repeat obtain ⟨_, hs_⟩ := hs_); go_simp; with_reducible rfl)); rotate_left; (focus (simp only [Act.put, List.setIfInBounds_toArray, List.set_cons_zero, List.set_cons_succ]; rfl)))
    refine one_ (i := 3) (N := some 30) #[true, true, true, true, true, false, false, false, false, false, false, false, false, false, false, false, false, false, false, false, false, false, false, false, false, false, false, false, false, false] rfl rfl (by kernel_rfl) (by decide) (fun K hK => ?_)
    refine goes_ Try.func20 (by kernel_rfl) rfl #[.agg #[.int .i64 g.f0, .slice E1 g.f1.length e1, .slice E2 g.f2.length e2, .slice E3 g.f3.length e3]] (by rfl) rfl rfl (by (try simp only [List.map_toArray, List.map_cons, List.map_nil]); first | done | rfl) ?_
    refine (depth_calls _ g W8 T8.out.H.isG (by omega)).mono ?_
    rintro e W9 ⟨rfl, hb9⟩
    have T9 := T8.out.below hb9
    have HP9 := Kd.R_below HP8.out hb9
    refine ⟨_, rfl, hK.out _ _ ⟨(blk_cell T9.b 0).trans rfl, (blk_cell T9.b 1).trans rfl, (blk_cell T9.b 2).trans rfl, (blk_cell T9.b 3).trans rfl, (blk_cell T9.h 0).trans rfl, (blk_cell T9.h 1).trans rfl, (blk_cell T9.h 2).trans rfl, (blk_cell T9.h 3).trans rfl, trivial⟩ (fun hHeld9 => ?_)⟩
    clear hK K
    (refine norm_ (a' := ?_) ?_ ?_; rotate_left; focus (show Act.put _ (some 30) _ = _; simp only [Act.put, List.setIfInBounds_toArray, List.set_cons_zero, List.set_cons_succ]; rfl))
    refine one_ (i := 5) (N := some 32) #[true, true, true, true, true, true, false, false, false, false, false, false, false, false, false, false, false, false, false, false, false, false, false, false, false, false, false, false, false, false] rfl rfl (by kernel_rfl) (by decide) (fun K hK => ?_)
    refine goes_ Try.func21 (by kernel_rfl) rfl #[.agg #[.int .i64 g.f0, .slice A1 g.f1.length c1, .slice A2 g.f2.length c2, .slice A3 g.f3.length c3]] (by rfl) rfl rfl (by (try simp only [List.map_toArray, List.map_cons, List.map_nil]); first | done | rfl) ?_
    refine (rdepth_calls g.bulk _ g W9 T9.G (Nat.le_refl _) (by omega)).mono ?_
    rintro e W10 ⟨rfl, hba⟩
    have T10 := T9.below hba
    have HP10 := Kd.R_below HP9 hba
    refine ⟨_, rfl, hK.out _ _ ⟨(blk_cell T10.b 0).trans rfl, (blk_cell T10.b 1).trans rfl, (blk_cell T10.b 2).trans rfl, (blk_cell T10.b 3).trans rfl, (blk_cell T10.h 0).trans rfl, (blk_cell T10.h 1).trans rfl, (blk_cell T10.h 2).trans rfl, (blk_cell T10.h 3).trans rfl, trivial⟩ (fun hHelda => ?_)⟩
    clear hK K
    (refine norm_ (a' := ?_) ?_ ?_; rotate_left; focus (show Act.put _ (some 32) _ = _; simp only [Act.put, List.setIfInBounds_toArray, List.set_cons_zero, List.set_cons_succ]; rfl))
    have hHeld10 : (fun w' => w'.cell? ⟨gb_, 0, none⟩ = some (.int .i64 g.f0) ∧ w'.cell? ⟨gb_, 1, none⟩ = some (.slice A1 g.f1.length c1) ∧ w'.cell? ⟨gb_, 2, none⟩ = some (.slice A2 g.f2.length c2) ∧ w'.cell? ⟨gb_, 3, none⟩ = some (.slice A3 g.f3.length c3) ∧ w'.cell? ⟨gh, 0, none⟩ = some (.int .i64 g.f0) ∧ w'.cell? ⟨gh, 1, none⟩ = some (.slice E1 g.f1.length e1) ∧ w'.cell? ⟨gh, 2, none⟩ = some (.slice E2 g.f2.length e2) ∧ w'.cell? ⟨gh, 3, none⟩ = some (.slice E3 g.f3.length e3) ∧ True) W10 := ⟨(blk_cell T10.b 0).trans rfl, (blk_cell T10.b 1).trans rfl, (blk_cell T10.b 2).trans rfl, (blk_cell T10.b 3).trans rfl, (blk_cell T10.h 0).trans rfl, (blk_cell T10.h 1).trans rfl, (blk_cell T10.h 2).trans rfl, (blk_cell T10.h 3).trans rfl, trivial⟩
    (refine pure_ (i := 6) (N := some 33) (v := ?_) (a' := ?_) #[true, true, true, true, true, true, true, false, false, false, false, false, false, false, false, false, false, false, false, false, false, false, false, false, false, false, false, false, false, false] rfl rfl (by kernel_rfl) (fun _ _ _ h => h) (Or.inl ⟨by rfl, ?_⟩) ?_ ?_; rotate_left; (focus (intro w'_; go_simp; with_reducible rfl)); rotate_left; (focus (simp only [Act.put, List.setIfInBounds_toArray, List.set_cons_zero, List.set_cons_succ]; rfl)))
    (refine pure_ (i := 7) (N := some 34) (v := ?_) (a' := ?_) #[true, true, true, true, true, true, true, true, false, false, false, false, false, false, false, false, false, false, false, false, false, false, false, false, false, false, false, false, false, false] rfl rfl (by kernel_rfl) (fun _ _ _ h => h) (Or.inl ⟨by rfl, ?_⟩) ?_ ?_; rotate_left; (focus (intro w'_; go_simp; with_reducible rfl)); rotate_left; (focus (simp only [Act.put, List.setIfInBounds_toArray, List.set_cons_zero, List.set_cons_succ]; rfl)))
    (refine pure_ (i := 8) (N := some 35) (v := ?_) (a' := ?_) #[true, true, true, true, true, true, true, true, true, false, false, false, false, false, false, false, false, false, false, false, false, false, false, false, false, false, false, false, false, false] rfl rfl (by kernel_rfl) (fun _ _ _ h => h) (Or.inl ⟨by rfl, ?_⟩) ?_ ?_; rotate_left; (focus (intro w'_; go_simp; with_reducible rfl)); rotate_left; (focus (simp only [Act.put, List.setIfInBounds_toArray, List.set_cons_zero, List.set_cons_succ]; rfl)))
    (refine pure_ (i := 9) (N := some 36) (v := ?_) (a' := ?_) #[true, true, true, true, true, true, true, true, true, true, false, false, false, false, false, false, false, false, false, false, false, false, false, false, false, false, false, false, false, false] rfl rfl (by kernel_rfl) (fun _ _ _ h => h) (Or.inl ⟨by rfl, ?_⟩) ?_ ?_; rotate_left; (focus (intro w'_; go_simp; with_reducible rfl)); rotate_left; (focus (simp only [Act.put, List.setIfInBounds_toArray, List.set_cons_zero, List.set_cons_succ]; rfl)))
    (refine pure_ (i := 10) (N := some 37) (v := ?_) (a' := ?_) #[true, true, true, true, true, true, true, true, true, true, true, false, false, false, false, false, false, false, false, false, false, false, false, false, false, false, false, false, false, false] rfl rfl (by kernel_rfl) (fun _ _ _ h => h) (Or.inl ⟨by rfl, ?_⟩) ?_ ?_; rotate_left; (focus (intro w'_; go_simp; with_reducible rfl)); rotate_left; (focus (simp only [Act.put, List.setIfInBounds_toArray, List.set_cons_zero, List.set_cons_succ]; rfl)))
    (refine pure_ (i := 11) (N := some 38) (v := ?_) (a' := ?_) #[true, true, true, true, true, true, true, true, true, true, true, true, false, false, false, false, false, false, false, false, false, false, false, false, false, false, false, false, false, false] rfl rfl (by kernel_rfl) (fun _ _ _ h => h) (Or.inl ⟨by rfl, ?_⟩) ?_ ?_; rotate_left; (focus (intro w'_; go_simp; with_reducible rfl)); rotate_left; (focus (simp only [Act.put, List.setIfInBounds_toArray, List.set_cons_zero, List.set_cons_succ]; rfl)))
    (refine pure_ (i := 12) (N := some 39) (v := ?_) (a' := ?_) #[true, true, true, true, true, true, true, true, true, true, true, true, true, false, false, false, false, false, false, false, false, false, false, false, false, false, false, false, false, false] rfl rfl (by kernel_rfl) (fun _ _ _ h => h) (Or.inl ⟨by rfl, ?_⟩) ?_ ?_; rotate_left; (focus (intro w'_; go_simp; with_reducible rfl)); rotate_left; (focus (simp only [Act.put, List.setIfInBounds_toArray, List.set_cons_zero, List.set_cons_succ]; rfl)))
    (refine pure_ (i := 13) (N := some 40) (v := ?_) (a' := ?_) #[true, true, true, true, true, true, true, true, true, true, true, true, true, true, false, false, false, false, false, false, false, false, false, false, false, false, false, false, false, false] rfl rfl (by kernel_rfl) (fun _ _ _ h => h) (Or.inl ⟨by rfl, ?_⟩) ?_ ?_; rotate_left; (focus (intro w'_; go_simp; with_reducible rfl)); rotate_left; (focus (simp only [Act.put, List.setIfInBounds_toArray, List.set_cons_zero, List.set_cons_succ]; rfl)))
    (refine pure_ (i := 14) (N := some 41) (v := ?_) (a' := ?_) #[true, true, true, true, true, true, true, true, true, true, true, true, true, true, true, false, false, false, false, false, false, false, false, false, false, false, false, false, false, false] rfl rfl (by kernel_rfl) (fun _ _ _ h => h) (Or.inl ⟨by rfl, ?_⟩) ?_ ?_; rotate_left; (focus (intro w'_; go_simp; with_reducible rfl)); rotate_left; (focus (simp only [Act.put, List.setIfInBounds_toArray, List.set_cons_zero, List.set_cons_succ]; rfl)))
    (refine pure_ (i := 15) (N := some 42) (v := ?_) (a' := ?_) #[true, true, true, true, true, true, true, true, true, true, true, true, true, true, true, true, false, false, false, false, false, false, false, false, false, false, false, false, false, false] rfl rfl (by kernel_rfl) (fun _ _ _ h => h) (Or.inl ⟨by rfl, ?_⟩) ?_ ?_; rotate_left; (focus (intro w'_; go_simp; with_reducible rfl)); rotate_left; (focus (simp only [Act.put, List.setIfInBounds_toArray, List.set_cons_zero, List.set_cons_succ]; rfl)))
    (refine pure_ (i := 16) (N := some 43) (v := ?_) (a' := ?_) #[true, true, true, true, true, true, true, true, true, true, true, true, true, true, true, true, true, false, false, false, false, false, false, false, false, false, false, false, false, false] rfl rfl (by kernel_rfl) (fun _ _ _ h => h) (Or.inl ⟨by rfl, ?_⟩) ?_ ?_; rotate_left; (focus (intro w'_; go_simp; with_reducible rfl)); rotate_left; (focus (simp only [Act.put, List.setIfInBounds_toArray, List.set_cons_zero, List.set_cons_succ]; rfl)))
    (refine pure_ (i := 17) (N := some 44) (v := ?_) (a' := ?_) #[true, true, true, true, true, true, true, true, true, true, true, true, true, true, true, true, true, true, false, false, false, false, false, false, false, false, false, false, false, false] rfl rfl (by kernel_rfl) (fun _ _ _ h => h) (Or.inl ⟨by rfl, ?_⟩) ?_ ?_; rotate_left; (focus (intro w'_; go_simp; with_reducible rfl)); rotate_left; (focus (simp only [Act.put, List.setIfInBounds_toArray, List.set_cons_zero, List.set_cons_succ]; rfl)))
    (refine pure_ (i := 18) (N := some 45) (v := ?_) (a' := ?_) #[true, true, true, true, true, true, true, true, true, true, true, true, true, true, true, true, true, true, true, false, false, false, false, false, false, false, false, false, false, false] rfl rfl (by kernel_rfl) (fun _ _ _ h => h) (Or.inl ⟨by rfl, ?_⟩) ?_ ?_; rotate_left; (focus (intro w'_; go_simp; with_reducible rfl)); rotate_left; (focus (simp only [Act.put, List.setIfInBounds_toArray, List.set_cons_zero, List.set_cons_succ]; rfl)))
    (refine pure_ (i := 19) (N := some 46) (v := ?_) (a' := ?_) #[true, true, true, true, true, true, true, true, true, true, true, true, true, true, true, true, true, true, true, true, false, false, false, false, false, false, false, false, false, false] rfl rfl (by kernel_rfl) (fun _ _ _ h => h) (Or.inl ⟨by rfl, ?_⟩) ?_ ?_; rotate_left; (focus (intro w'_; go_simp; with_reducible rfl)); rotate_left; (focus (simp only [Act.put, List.setIfInBounds_toArray, List.set_cons_zero, List.set_cons_succ]; rfl)))
    (refine take_ (i := 20) (N := some 47) (v := ?_) (a' := ?_) #[true, true, true, true, true, true, true, true, true, true, true, true, true, true, true, true, true, true, true, true, true, false, false, false, false, false, false, false, false, false] rfl rfl (by kernel_rfl) (fun _ _ _ h => h) (Or.inl ⟨by rfl, ?_⟩) hHeld10 ?_ ?_; rotate_left; (focus (intro w'_ hs_; (repeat obtain ⟨_, hs_⟩ := hs_); go_simp; with_reducible rfl)); rotate_left; (focus (simp only [Act.put, List.setIfInBounds_toArray, List.set_cons_zero, List.set_cons_succ]; rfl)))
    refine one_ (i := 21) (N := some 48) #[true, true, true, true, true, true, true, true, true, true, true, true, true, true, true, true, true, true, true, true, true, true, false, false, false, false, false, false, false, false] rfl rfl (by kernel_rfl) (by decide) (fun K hK => ?_)
    refine goes_ Try.func23 (by kernel_rfl) rfl #[.agg #[.int .i64 g.f0, .slice A1 g.f1.length c1, .slice A2 g.f2.length c2, .slice A3 g.f3.length c3]] (by rfl) rfl rfl (by (try simp only [List.map_toArray, List.map_cons, List.map_nil]); first | done | rfl) ?_
    refine (rpoints_calls g.bulk _ g W10 T10.G (Nat.le_refl _) (by omega)).mono ?_
    rintro e W11 ⟨uq, rfl, hq11, hb11⟩
    obtain ⟨P2, p2, ep2⟩ := Kd.R_slice hq11
    subst ep2
    have T11 := T10.below hb11
    have HP11 := Kd.R_below HP10 hb11
    refine ⟨_, rfl, hK.out _ _ ⟨(blk_cell T11.b 0).trans rfl, (blk_cell T11.b 1).trans rfl, (blk_cell T11.b 2).trans rfl, (blk_cell T11.b 3).trans rfl, (blk_cell T11.h 0).trans rfl, (blk_cell T11.h 1).trans rfl, (blk_cell T11.h 2).trans rfl, (blk_cell T11.h 3).trans rfl, trivial⟩ (fun hHeld11 => ?_)⟩
    clear hK K
    (refine norm_ (a' := ?_) ?_ ?_; rotate_left; focus (show Act.put _ (some 48) _ = _; simp only [Act.put, List.setIfInBounds_toArray, List.set_cons_zero, List.set_cons_succ]; rfl))
    refine one_ (i := 22) (N := some 49) #[true, true, true, true, true, true, true, true, true, true, true, true, true, true, true, true, true, true, true, true, true, true, true, false, false, false, false, false, false, false] rfl rfl (by kernel_rfl) (by decide) (fun K hK => ?_)
    refine goes_ Try.func22 (by kernel_rfl) rfl #[.slice P1 (allPts g).length p1, .slice P2 (allPts g).length p2] (by rfl) rfl rfl (by (try simp only [List.map_toArray, List.map_cons, List.map_nil]); first | done | rfl) ?_
    have hpl : (allPts g).length ≤ 1073741824 := by have := pts_bulk g; omega
    refine (eqLines_calls P1 P2 p1 p2 (allPts g) (allPts g) W11 (Kd.R_reads' HP11).2.2 (Kd.R_reads' hq11).2.2 hpl).mono ?_
    rintro e W12 ⟨rfl, nd, hW12⟩
    rw [eqL_true rfl]
    have T12 := T11.below (show Below W11.heap.size W11 W12 by rw [hW12]; exact pw_below_drewN (Below.refl _ _) _)
    clear hW12
    refine ⟨_, rfl, hK.out _ _ ⟨(blk_cell T12.b 0).trans rfl, (blk_cell T12.b 1).trans rfl, (blk_cell T12.b 2).trans rfl, (blk_cell T12.b 3).trans rfl, (blk_cell T12.h 0).trans rfl, (blk_cell T12.h 1).trans rfl, (blk_cell T12.h 2).trans rfl, (blk_cell T12.h 3).trans rfl, trivial⟩ (fun hHeld12 => ?_)⟩
    clear hK K
    (refine norm_ (a' := ?_) ?_ ?_; rotate_left; focus (show Act.put _ (some 49) _ = _; simp only [Act.put, List.setIfInBounds_toArray, List.set_cons_zero, List.set_cons_succ]; rfl))
    (refine pure_ (i := 23) (N := some 50) (v := ?_) (a' := ?_) #[true, true, true, true, true, true, true, true, true, true, true, true, true, true, true, true, true, true, true, true, true, true, true, true, false, false, false, false, false, false] rfl rfl (by kernel_rfl) (fun _ _ _ h => h) (Or.inl ⟨by rfl, ?_⟩) ?_ ?_; rotate_left; (focus (intro w'_; go_simp; with_reducible rfl)); rotate_left; (focus (simp only [Act.put, List.setIfInBounds_toArray, List.set_cons_zero, List.set_cons_succ]; rfl)))
    (refine pure_ (i := 24) (N := some 51) (v := ?_) (a' := ?_) #[true, true, true, true, true, true, true, true, true, true, true, true, true, true, true, true, true, true, true, true, true, true, true, true, true, false, false, false, false, false] rfl rfl (by kernel_rfl) (fun _ _ _ h => h) (Or.inl ⟨by rfl, ?_⟩) ?_ ?_; rotate_left; (focus (intro w'_; go_simp; with_reducible rfl)); rotate_left; (focus (simp only [Act.put, List.setIfInBounds_toArray, List.set_cons_zero, List.set_cons_succ]; rfl)))
    (refine take_ (i := 25) (N := some 52) (v := ?_) (a' := ?_) #[true, true, true, true, true, true, true, true, true, true, true, true, true, true, true, true, true, true, true, true, true, true, true, true, true, true, false, false, false, false] rfl rfl (by kernel_rfl) (fun _ _ _ h => h) (Or.inl ⟨by rfl, ?_⟩) hHeld12 ?_ ?_; rotate_left; (focus (intro w'_ hs_; (repeat obtain ⟨_, hs_⟩ := hs_); go_simp; with_reducible rfl)); rotate_left; (focus (simp only [Act.put, List.setIfInBounds_toArray, List.set_cons_zero, List.set_cons_succ]; rfl)))
    (refine take_ (i := 26) (N := some 53) (v := ?_) (a' := ?_) #[true, true, true, true, true, true, true, true, true, true, true, true, true, true, true, true, true, true, true, true, true, true, true, true, true, true, true, false, false, false] rfl rfl (by kernel_rfl) (fun _ _ _ h => h) (Or.inl ⟨by rfl, ?_⟩) hHeld12 ?_ ?_; rotate_left; (focus (intro w'_ hs_; (repeat obtain ⟨_, hs_⟩ := hs_); go_simp; with_reducible rfl)); rotate_left; (focus (simp only [Act.put, List.setIfInBounds_toArray, List.set_cons_zero, List.set_cons_succ]; rfl)))
    refine one_ (i := 27) (N := some 54) #[true, true, true, true, true, true, true, true, true, true, true, true, true, true, true, true, true, true, true, true, true, true, true, true, true, true, true, true, false, false] rfl rfl (by kernel_rfl) (by decide) (fun K hK => ?_)
    refine goes_ Try.func16 (by kernel_rfl) rfl #[.agg #[.int .i64 g.f0, .slice E1 g.f1.length e1, .slice E2 g.f2.length e2, .slice E3 g.f3.length e3], .agg #[.int .i64 g.f0, .slice A1 g.f1.length c1, .slice A2 g.f2.length c2, .slice A3 g.f3.length c3]] (by rfl) rfl rfl (by (try simp only [List.map_toArray, List.map_cons, List.map_nil]); first | done | rfl) ?_
    refine (kept_calls g.bulk _ _ g W12 T12.H T12.G (by omega)).mono ?_
    rintro e W13 ⟨rfl, hb13⟩
    have T13 := T12.below hb13
    refine ⟨_, rfl, hK.out _ _ ⟨(blk_cell T13.b 0).trans rfl, (blk_cell T13.b 1).trans rfl, (blk_cell T13.b 2).trans rfl, (blk_cell T13.b 3).trans rfl, (blk_cell T13.h 0).trans rfl, (blk_cell T13.h 1).trans rfl, (blk_cell T13.h 2).trans rfl, (blk_cell T13.h 3).trans rfl, trivial⟩ (fun hHeld13 => ?_)⟩
    clear hK K
    (refine norm_ (a' := ?_) ?_ ?_; rotate_left; focus (show Act.put _ (some 54) _ = _; simp only [Act.put, List.setIfInBounds_toArray, List.set_cons_zero, List.set_cons_succ]; rfl))
    (refine pure_ (i := 28) (N := some 55) (v := ?_) (a' := ?_) #[true, true, true, true, true, true, true, true, true, true, true, true, true, true, true, true, true, true, true, true, true, true, true, true, true, true, true, true, true, false] rfl rfl (by kernel_rfl) (fun _ _ _ h => h) (Or.inl ⟨by rfl, ?_⟩) ?_ ?_; rotate_left; (focus (intro w'_; go_simp; with_reducible rfl)); rotate_left; (focus (simp only [Act.put, List.setIfInBounds_toArray, List.set_cons_zero, List.set_cons_succ]; rfl)))
    (refine pure_ (i := 29) (N := some 2) (v := ?_) (a' := ?_) #[true, true, true, true, true, true, true, true, true, true, true, true, true, true, true, true, true, true, true, true, true, true, true, true, true, true, true, true, true, true] rfl rfl (by kernel_rfl) (fun _ _ _ h => h) (Or.inl ⟨by rfl, ?_⟩) ?_ ?_; rotate_left; (focus (intro w'_; go_simp; with_reducible rfl)); rotate_left; (focus (simp only [Act.put, List.setIfInBounds_toArray, List.set_cons_zero, List.set_cons_succ]; rfl)))
    refine done_ (by kernel_rfl) ?_
    have HBf := Aside0.mk T13.B
    go_wp2_with fail
    go_ret
    exact ⟨rfl, HBf.out⟩
end Go.Proofs.Ytmcbniobbbjdjaa.Tree
