/- The reference's Depth, Count, Points by contracts. No conditions but those told. -/
import Derived.Test.YtmcbniobbbjdjaaTGeos
namespace Go.Proofs.Ytmcbniobbbjdjaa.Tree
open Go.RowKit Go.Proofs.YtmcbniobbbjdjaaW.PrintWords Go.Proofs.YtmcbniobbbjdjaaW.PrintLast Go.Proofs.YtmcbniobbbjdjaaW.PrintMore
set_option linter.unusedVariables false
set_option linter.unusedSimpArgs false
/-- The sizes of the first k parts together. -/
def cntTo (g : Ge) (k : Nat) : Nat := ((g.f3.take k).map geos).flatten.length
def ptsTo (g : Ge) (k : Nat) : List Pt := own g ++ ((g.f3.take k).map allPts).flatten
theorem cntTo_succ (g : Ge) (k : Nat) (h : k < g.f3.length) : cntTo g (k + 1) = cntTo g k + (geos g.f3[k]).length := by
  unfold cntTo
  rw [List.take_succ_eq_append_getElem h, List.map_append, List.flatten_append, List.length_append]; simp
theorem ptsTo_succ (g : Ge) (k : Nat) (h : k < g.f3.length) : ptsTo g (k + 1) = ptsTo g k ++ allPts g.f3[k] := by
  unfold ptsTo
  rw [List.take_succ_eq_append_getElem h, List.map_append, List.flatten_append]; simp
theorem cntTo_all (g : Ge) : 1 + cntTo g g.f3.length = (geos g).length := by unfold cntTo; rw [List.take_length, geos_eq, List.length_cons]; omega
theorem ptsTo_all (g : Ge) : ptsTo g g.f3.length = allPts g := by unfold ptsTo; rw [List.take_length, allPts_eq]
theorem ptsTo_zero (g : Ge) : ptsTo g 0 = own g := by simp [ptsTo]
theorem to_le (g : Ge) (k : Nat) : (ptsTo g k).length + cntTo g k ≤ g.bulk := by
  have h := pts_bulk g
  have h1 : (geos g).length = 1 + (cntTo g k + ((g.f3.drop k).map geos).flatten.length) := by
    rw [← cntTo_all]
    unfold cntTo
    rw [List.take_length]
    conv => lhs; rw [← List.take_append_drop k g.f3]
    rw [List.map_append, List.flatten_append, List.length_append]
  have h2 : (allPts g).length = (ptsTo g k).length + ((g.f3.drop k).map allPts).flatten.length := by
    rw [← ptsTo_all]
    unfold ptsTo
    rw [List.take_length, List.length_append, List.length_append]
    conv => lhs; rw [← List.take_append_drop k g.f3]
    rw [List.map_append, List.flatten_append, List.length_append]
    omega
  omega
set_option maxRecDepth 100000 in
set_option maxHeartbeats 4000000 in
theorem rdepth_calls (n : Nat) : ∀ (v : Value) (g : Ge) (w : World), IsG w v g → g.bulk ≤ n → n ≤ 1073741824 →
    Calls Try.prog 21 #[v] w fun e w' => e = .returned (.int .i64 (depthOf g)) ∧ Below w.heap.size w w' := by
  induction n with
  | zero => intro v g w _ h; have := g.bulk_eq; omega
  | succ n ih =>
  intro v g w hv hbk hn
  obtain ⟨A1, c1, A2, c2, A3, c3, rfl, l1, h1, l2, h2, l3, h3⟩ := hv
  have hbq := g.bulk_eq
  have H3 := Aside0.mk h3
  have hu := Try.underlying26
  have IH := Aside0.mk ih
  have hl3 : g.f3.length ≤ 1073741824 := by have := bulks_len g.f3; omega
  clear h1 h2 h3 ih
  have HB := Aside0.mk (Below.refl w.heap.size w)
  go_enter Try.func21, Try.ntmps21
  go_wp2_with (first
    | ((with_reducible refine gate_dst (N := 1) rfl ?_); refine box_event ?hg (N := 1) ?hd (cs := #[.int .i64 g.f0, .slice A1 g.f1.length c1, .slice A2 g.f2.length c2, .slice A3 g.f3.length c3]) (t := 26) ?hr ?_; (case hd => rfl); (case hg => rfl); (case hr => first | (go_simp; done) | (go_simp; rfl)); intro gb_ hgb_ wb_ hbox_ hbb_; have GE := Aside0.mk (show w.heap.size ≤ gb_ from by rw [hgb_]; exact below_size (by repeat (first | (with_reducible first | exact HB.out | apply below_alloc | apply pw_below_drewN | apply below_drew1) | exact HB.out))); have n_ := Aside0.mk (below_step (by repeat (first | (with_reducible first | exact HB.out | apply below_alloc | apply pw_below_drewN | apply below_drew1) | exact HB.out)) hbb_); clear HB; have HB := n_; have BK := Aside0.mk hbox_; (have z0_ : wb_.cell? ⟨gb_, 0, none⟩ = some (.int .i64 g.f0) := (blk_cell BK.out 0).trans rfl; have z1_ : wb_.cell? ⟨gb_, 1, none⟩ = some (.slice A1 g.f1.length c1) := (blk_cell BK.out 1).trans rfl; have z2_ : wb_.cell? ⟨gb_, 2, none⟩ = some (.slice A2 g.f2.length c2) := (blk_cell BK.out 2).trans rfl; have z3_ : wb_.cell? ⟨gb_, 3, none⟩ = some (.slice A3 g.f3.length c3) := (blk_cell BK.out 3).trans rfl); clear n_ hbox_ hbb_ hgb_))
  go_loopg [3, 4] g.f3.length (fun kq d i wr => ∃ k : Nat, k + kq = g.f3.length ∧ i = .int .i64 (k : Int) ∧ d = .int .i64 (hiP (g.f3.take k) 2 1) ∧ Aside0 (wr.heap[gb_]? = some (.cells #[.int .i64 g.f0, .slice A1 g.f1.length c1, .slice A2 g.f2.length c2, .slice A3 g.f3.length c3] 26 (0, 0))) ∧ Aside0 (Below w.heap.size w wr))
  case atStart => exact ⟨0, by omega, rfl, rfl, BK, HB⟩
  case round =>
    clear BK HB z0_ z1_ z2_ z3_
    obtain ⟨k, hk, rfl, rfl, BK, HB⟩ := hrel
    have z0_ : wr.cell? ⟨gb_, 0, none⟩ = some (.int .i64 g.f0) := (blk_cell BK.out 0).trans rfl; have z1_ : wr.cell? ⟨gb_, 1, none⟩ = some (.slice A1 g.f1.length c1) := (blk_cell BK.out 1).trans rfl; have z2_ : wr.cell? ⟨gb_, 2, none⟩ = some (.slice A2 g.f2.length c2) := (blk_cell BK.out 2).trans rfl; have z3_ : wr.cell? ⟨gb_, 3, none⟩ = some (.slice A3 g.f3.length c3) := (blk_cell BK.out 3).trans rfl
    cases gk with
    | zero =>
      have hlt : ¬ ((k : Int) < (g.f3.length : Int)) := by omega
      obtain rfl : k = g.f3.length := by omega
      go_wp2_with fail
      go_ret
      exact ⟨ret_i (depth_eq g).symm, HB.out⟩
    | succ kq =>
      have hlt : k < g.f3.length := by omega
      obtain ⟨a3, B1, d1, B2, d2, B3, d3, ea, p0, p1, p2, p3, m1, q1, m2, q2, m3, q3⟩ := at_Ge H3.out k (by omega) (by omega)
      subst ea
      rw [rd_Ge_at _ _ hlt] at p0 p1 p2 p3 q1 q2 q3 m1 m2 m3
      rw [Int.toNat_natCast] at p0 p1 p2 p3
      have p0' := cell_below HB.out p0
      have p1' := cell_below HB.out p1
      have p2' := cell_below HB.out p2
      have p3' := cell_below HB.out p3
      have HG := Aside0.mk (show IsG w (.agg #[.int .i64 (g.f3[k]).f0, .slice B1 (g.f3[k]).f1.length d1, .slice B2 (g.f3[k]).f2.length d2, .slice B3 (g.f3[k]).f3.length d3]) g.f3[k] from ⟨B1, d1, B2, d2, B3, d3, rfl, m1, q1, m2, q2, m3, q3⟩)
      have hpb : (g.f3[k]).bulk ≤ n := by have := bulks_mem (List.getElem_mem hlt); omega
      have hdl := depth_le g.f3[k]
      have hdp := depth_pos g.f3[k]
      have HS := Aside0.mk (show hiP (g.f3.take (k + 1)) 2 1 = max (hiP (g.f3.take k) 2 1) (2 + depthOf g.f3[k] - 1) by rw [List.take_succ_eq_append_getElem hlt, hiP_snoc])
      have hk1 : (k : Int) < (g.f3.length : Int) := by omega
      clear p0 p1 p2 p3 q1 q2 q3 m1 m2 m3
      go_wp2_with fail
      refine (IH.out _ g.f3[k] wr (HG.out.below HB.out) hpb (by omega)).mono ?_
      rintro e w2 ⟨rfl, hb2⟩
      have HB2 := Aside0.mk (below_step HB.out hb2)
      have BK2 := Aside0.mk (blk_below BK.out hb2)
      obtain ⟨M, hM⟩ : ∃ M, M = hiP (g.f3.take k) 2 1 := ⟨_, rfl⟩
      rw [← hM] at HS ⊢
      obtain ⟨D, hD⟩ : ∃ D, D = depthOf g.f3[k] := ⟨_, rfl⟩
      rw [← hD] at HS hdl hdp ⊢
      clear hM hD hb2
      by_cases hc : M < D + 1
      · go_wp2_with fail
        go_roundg kq
        case measure => omega
        case rel => exact ⟨k + 1, by omega, by go_num, by rw [HS.out]; congr 1; omega, BK2, HB2⟩
      · go_wp2_with fail
        go_roundg kq
        case measure => omega
        case rel => exact ⟨k + 1, by omega, by go_num, by rw [HS.out]; congr 1; omega, BK2, HB2⟩
theorem ret_ii {k l : IntKind} {a b c d : Int} (h : a = b) (h2 : c = d) : Ending.returned (.tuple #[.int k a, .int l c]) = Ending.returned (.tuple #[.int k b, .int l d]) := by rw [h, h2]
set_option maxRecDepth 100000 in
set_option maxHeartbeats 4000000 in
theorem rcount_calls (n : Nat) : ∀ (v : Value) (g : Ge) (w : World), IsG w v g → g.bulk ≤ n → n ≤ 1073741824 →
    Calls Try.prog 18 #[v] w fun e w' => e = .returned (.tuple #[.int .i64 (geos g).length, .int .i64 (allPts g).length]) ∧ Below w.heap.size w w' := by
  induction n with
  | zero => intro v g w _ h; have := g.bulk_eq; omega
  | succ n ih =>
  intro v g w hv hbk hn
  have HV := Aside0.mk hv
  obtain ⟨A1, c1, A2, c2, A3, c3, rfl, l1, h1, l2, h2, l3, h3⟩ := hv
  have hbq := g.bulk_eq
  have H3 := Aside0.mk h3
  have hu := Try.underlying26
  have IH := Aside0.mk ih
  have hl3 : g.f3.length ≤ 1073741824 := by have := bulks_len g.f3; omega
  clear h1 h2 h3 ih
  have HB := Aside0.mk (Below.refl w.heap.size w)
  go_enter Try.func18, Try.ntmps18
  go_wp2_with (first
    | ((with_reducible refine gate_dst (N := 1) rfl ?_); refine box_event ?hg (N := 1) ?hd (cs := #[.int .i64 g.f0, .slice A1 g.f1.length c1, .slice A2 g.f2.length c2, .slice A3 g.f3.length c3]) (t := 26) ?hr ?_; (case hd => rfl); (case hg => rfl); (case hr => first | (go_simp; done) | (go_simp; rfl)); intro gb_ hgb_ wb_ hbox_ hbb_; have GE := Aside0.mk (show w.heap.size ≤ gb_ from by rw [hgb_]; exact below_size (by repeat (first | (with_reducible first | exact HB.out | apply below_alloc | apply pw_below_drewN | apply below_drew1) | exact HB.out))); have n_ := Aside0.mk (below_step (by repeat (first | (with_reducible first | exact HB.out | apply below_alloc | apply pw_below_drewN | apply below_drew1) | exact HB.out)) hbb_); clear HB; have HB := n_; have BK := Aside0.mk hbox_; (have z0_ : wb_.cell? ⟨gb_, 0, none⟩ = some (.int .i64 g.f0) := (blk_cell BK.out 0).trans rfl; have z1_ : wb_.cell? ⟨gb_, 1, none⟩ = some (.slice A1 g.f1.length c1) := (blk_cell BK.out 1).trans rfl; have z2_ : wb_.cell? ⟨gb_, 2, none⟩ = some (.slice A2 g.f2.length c2) := (blk_cell BK.out 2).trans rfl; have z3_ : wb_.cell? ⟨gb_, 3, none⟩ = some (.slice A3 g.f3.length c3) := (blk_cell BK.out 3).trans rfl); clear n_ hbox_ hbb_ hgb_))
  refine (rown_calls _ g _ (HV.out.below HB.out) (by omega)).mono ?_
  rintro e w1 ⟨v1, rfl, ho1, hb1⟩
  obtain ⟨A4, c4, e4⟩ := Kd.R_slice ho1
  subst e4
  have BK1 := Aside0.mk (blk_below BK.out hb1)
  have HB1 := Aside0.mk (below_step HB.out hb1)
  have HT := Aside0.mk (to_le g)
  clear ho1 hb1 BK HB z0_ z1_ z2_ z3_
  go_wp2_with fail
  go_loopg [4, 5, 6] g.f3.length (fun kq c p i wr => ∃ k : Nat, k + kq = g.f3.length ∧ i = .int .i64 (k : Int) ∧ c = .int .i64 ((1 + cntTo g k : Nat) : Int) ∧ p = .int .i64 ((ptsTo g k).length : Int) ∧ Aside0 (wr.heap[gb_]? = some (.cells #[.int .i64 g.f0, .slice A1 g.f1.length c1, .slice A2 g.f2.length c2, .slice A3 g.f3.length c3] 26 (0, 0))) ∧ Aside0 (Below w.heap.size w wr))
  case atStart => exact ⟨0, by omega, rfl, by simp [cntTo], by rw [ptsTo_zero], BK1, HB1⟩
  case round =>
    clear BK1 HB1
    obtain ⟨k, hk, rfl, rfl, rfl, BK, HB⟩ := hrel
    have z0_ : wr.cell? ⟨gb_, 0, none⟩ = some (.int .i64 g.f0) := (blk_cell BK.out 0).trans rfl; have z1_ : wr.cell? ⟨gb_, 1, none⟩ = some (.slice A1 g.f1.length c1) := (blk_cell BK.out 1).trans rfl; have z2_ : wr.cell? ⟨gb_, 2, none⟩ = some (.slice A2 g.f2.length c2) := (blk_cell BK.out 2).trans rfl; have z3_ : wr.cell? ⟨gb_, 3, none⟩ = some (.slice A3 g.f3.length c3) := (blk_cell BK.out 3).trans rfl
    cases gk with
    | zero =>
      have hlt : ¬ ((k : Int) < (g.f3.length : Int)) := by omega
      obtain rfl : k = g.f3.length := by omega
      go_wp2_with fail
      go_ret2
      exact ⟨ret_ii (by have := cntTo_all g; omega) (by rw [ptsTo_all]), HB.out⟩
    | succ kq =>
      have hlt : k < g.f3.length := by omega
      obtain ⟨a3, B1, d1, B2, d2, B3, d3, ea, p0, p1, p2, p3, m1, q1, m2, q2, m3, q3⟩ := at_Ge H3.out k (by omega) (by omega)
      subst ea
      rw [rd_Ge_at _ _ hlt] at p0 p1 p2 p3 q1 q2 q3 m1 m2 m3
      rw [Int.toNat_natCast] at p0 p1 p2 p3
      have p0' := cell_below HB.out p0
      have p1' := cell_below HB.out p1
      have p2' := cell_below HB.out p2
      have p3' := cell_below HB.out p3
      have HG := Aside0.mk (show IsG w (.agg #[.int .i64 (g.f3[k]).f0, .slice B1 (g.f3[k]).f1.length d1, .slice B2 (g.f3[k]).f2.length d2, .slice B3 (g.f3[k]).f3.length d3]) g.f3[k] from ⟨B1, d1, B2, d2, B3, d3, rfl, m1, q1, m2, q2, m3, q3⟩)
      have hpb : (g.f3[k]).bulk ≤ n := by have := bulks_mem (List.getElem_mem hlt); omega
      have hk1 : (k : Int) < (g.f3.length : Int) := by omega
      clear p0 p1 p2 p3 q1 q2 q3 m1 m2 m3
      have HS := Aside0.mk (cntTo_succ g k hlt)
      have HS2 := Aside0.mk (show (ptsTo g (k + 1)).length = (ptsTo g k).length + (allPts g.f3[k]).length by rw [ptsTo_succ g k hlt, List.length_append])
      have hle : (ptsTo g k).length + (allPts g.f3[k]).length + (cntTo g k + (geos g.f3[k]).length) ≤ 1073741824 := by
        have h := HT.out (k + 1)
        rw [HS.out, HS2.out] at h
        omega
      go_wp2_with fail
      refine (IH.out _ g.f3[k] wr (HG.out.below HB.out) hpb (by omega)).mono ?_
      rintro e w2 ⟨rfl, hb2⟩
      have HB2 := Aside0.mk (below_step HB.out hb2)
      have BK2 := Aside0.mk (blk_below BK.out hb2)
      clear hb2
      go_wp2_with fail
      go_roundg kq
      case measure => omega
      case rel => exact ⟨k + 1, by omega, by go_num, by rw [HS.out]; go_num, by rw [HS2.out]; go_num, BK2, HB2⟩
set_option maxRecDepth 100000 in
set_option maxHeartbeats 4000000 in
theorem rpoints_calls (n : Nat) : ∀ (v : Value) (g : Ge) (w : World), IsG w v g → g.bulk ≤ n → n ≤ 1073741824 →
    Calls Try.prog 23 #[v] w fun e w' => ∃ u, e = .returned u ∧ Kd.R kPt 59 w' w.heap.size (fun _ => True) u (allPts g) ∧ Below w.heap.size w w' := by
  induction n with
  | zero => intro v g w _ h; have := g.bulk_eq; omega
  | succ n ih =>
  intro v g w hv hbk hn
  have HV := Aside0.mk hv
  obtain ⟨A1, c1, A2, c2, A3, c3, rfl, l1, h1, l2, h2, l3, h3⟩ := hv
  have hbq := g.bulk_eq
  have H3 := Aside0.mk h3
  have hu := Try.underlying26
  have IH := Aside0.mk ih
  have hl3 : g.f3.length ≤ 1073741824 := by have := bulks_len g.f3; omega
  clear h1 h2 h3 ih
  have HB := Aside0.mk (Below.refl w.heap.size w)
  go_enter Try.func23, Try.ntmps23
  go_wp2_with (first
    | ((with_reducible refine gate_dst (N := 1) rfl ?_); refine box_event ?hg (N := 1) ?hd (cs := #[.int .i64 g.f0, .slice A1 g.f1.length c1, .slice A2 g.f2.length c2, .slice A3 g.f3.length c3]) (t := 26) ?hr ?_; (case hd => rfl); (case hg => rfl); (case hr => first | (go_simp; done) | (go_simp; rfl)); intro gb_ hgb_ wb_ hbox_ hbb_; have GE := Aside0.mk (show w.heap.size ≤ gb_ from by rw [hgb_]; exact below_size (by repeat (first | (with_reducible first | exact HB.out | apply below_alloc | apply pw_below_drewN | apply below_drew1) | exact HB.out))); have n_ := Aside0.mk (below_step (by repeat (first | (with_reducible first | exact HB.out | apply below_alloc | apply pw_below_drewN | apply below_drew1) | exact HB.out)) hbb_); clear HB; have HB := n_; have BK := Aside0.mk hbox_; (have z0_ : wb_.cell? ⟨gb_, 0, none⟩ = some (.int .i64 g.f0) := (blk_cell BK.out 0).trans rfl; have z1_ : wb_.cell? ⟨gb_, 1, none⟩ = some (.slice A1 g.f1.length c1) := (blk_cell BK.out 1).trans rfl; have z2_ : wb_.cell? ⟨gb_, 2, none⟩ = some (.slice A2 g.f2.length c2) := (blk_cell BK.out 2).trans rfl; have z3_ : wb_.cell? ⟨gb_, 3, none⟩ = some (.slice A3 g.f3.length c3) := (blk_cell BK.out 3).trans rfl); clear n_ hbox_ hbb_ hgb_))
  refine (rown_calls _ g _ (HV.out.below HB.out) (by omega)).mono ?_
  rintro e w1 ⟨v1, rfl, ho1, hb1⟩
  obtain ⟨A4, c4, e4⟩ := Kd.R_slice ho1
  have BK1 := Aside0.mk (blk_below BK.out hb1)
  have HO1 := Aside0.mk (Kd.R_lower ho1 HB.out.size)
  have HB1 := Aside0.mk (below_step HB.out hb1)
  have HT := Aside0.mk (to_le g)
  clear ho1 hb1 BK HB z0_ z1_ z2_ z3_ e4
  go_wp2_with fail
  go_loopg [3, 4] g.f3.length (fun kq u i wr => ∃ k : Nat, k + kq = g.f3.length ∧ i = .int .i64 (k : Int) ∧ Aside0 (Kd.R kPt 59 wr w.heap.size (fun _ => True) u (ptsTo g k)) ∧ Aside0 (wr.heap[gb_]? = some (.cells #[.int .i64 g.f0, .slice A1 g.f1.length c1, .slice A2 g.f2.length c2, .slice A3 g.f3.length c3] 26 (0, 0))) ∧ Aside0 (Below w.heap.size w wr))
  case atStart => exact ⟨0, by omega, rfl, ⟨by rw [ptsTo_zero]; exact HO1.out⟩, BK1, HB1⟩
  case round =>
    clear BK1 HB1 HO1
    obtain ⟨k, hk, rfl, HO, BK, HB⟩ := hrel
    have z0_ : wr.cell? ⟨gb_, 0, none⟩ = some (.int .i64 g.f0) := (blk_cell BK.out 0).trans rfl; have z1_ : wr.cell? ⟨gb_, 1, none⟩ = some (.slice A1 g.f1.length c1) := (blk_cell BK.out 1).trans rfl; have z2_ : wr.cell? ⟨gb_, 2, none⟩ = some (.slice A2 g.f2.length c2) := (blk_cell BK.out 2).trans rfl; have z3_ : wr.cell? ⟨gb_, 3, none⟩ = some (.slice A3 g.f3.length c3) := (blk_cell BK.out 3).trans rfl
    cases gk with
    | zero =>
      have hlt : ¬ ((k : Int) < (g.f3.length : Int)) := by omega
      obtain rfl : k = g.f3.length := by omega
      go_wp2_with fail
      go_ret
      exact ⟨_, rfl, by have := HO.out; rwa [ptsTo_all] at this, HB.out⟩
    | succ kq =>
      have hlt : k < g.f3.length := by omega
      obtain ⟨a3, B1, d1, B2, d2, B3, d3, ea, p0, p1, p2, p3, m1, q1, m2, q2, m3, q3⟩ := at_Ge H3.out k (by omega) (by omega)
      subst ea
      rw [rd_Ge_at _ _ hlt] at p0 p1 p2 p3 q1 q2 q3 m1 m2 m3
      rw [Int.toNat_natCast] at p0 p1 p2 p3
      have p0' := cell_below HB.out p0
      have p1' := cell_below HB.out p1
      have p2' := cell_below HB.out p2
      have p3' := cell_below HB.out p3
      have HG := Aside0.mk (show IsG w (.agg #[.int .i64 (g.f3[k]).f0, .slice B1 (g.f3[k]).f1.length d1, .slice B2 (g.f3[k]).f2.length d2, .slice B3 (g.f3[k]).f3.length d3]) g.f3[k] from ⟨B1, d1, B2, d2, B3, d3, rfl, m1, q1, m2, q2, m3, q3⟩)
      have hpb : (g.f3[k]).bulk ≤ n := by have := bulks_mem (List.getElem_mem hlt); omega
      have hk1 : (k : Int) < (g.f3.length : Int) := by omega
      clear p0 p1 p2 p3 q1 q2 q3 m1 m2 m3
      have HS := Aside0.mk (ptsTo_succ g k hlt)
      have hle : (ptsTo g k).length + (allPts g.f3[k]).length ≤ 1073741824 := by
        have h := HT.out (k + 1)
        rw [HS.out, List.length_append] at h
        omega
      go_wp2_with fail
      refine (IH.out _ g.f3[k] wr (HG.out.below HB.out) hpb (by omega)).mono ?_
      rintro e w2 ⟨u2, rfl, ho2, hb2⟩
      obtain ⟨A5, c5, e5⟩ := Kd.R_slice ho2
      subst e5
      have HB2 := Aside0.mk (below_step HB.out hb2)
      have BK2 := Aside0.mk (blk_below BK.out hb2)
      have HOa := Aside0.mk (Kd.R_below HO.out hb2)
      have HRd := Aside0.mk (Kd.R_reads' ho2).2.2
      go_wp2_with ((with_reducible refine gate_builtin (b := .append) (xs := #[.tmp 14, .tmp 20]) rfl ?_); at_builtin; refine Kd.R_append_rows kPt (w0 := w) w.heap.size rfl (.tmp 14) (.tmp 20) 22 59 (.agg #[.int .u64 0, .int .u64 0]) 16 rfl Try.underlying22 infoPt rfl (Nat.succ_pos _) (by omega) _ (ptsTo g k) (allPts g.f3[k]) _ _ _ (fun _ => True) (fun _ => False) rfl rfl ?aO ?aR (fun _ _ h => h) (fun _ h => h.elim) ?aF ?aB ?aS ?aL ?_; (case aO => exact HOa.out); (case aR => exact HRd.out); (case aF => exact fun _ _ => trivial); (case aB => exact HB2.out); (case aS => exact HB2.out.size); (case aL => omega); intro v7 w7 ho7 hb7 hg7 hat7; have BK7 := Aside0.mk (blk_grown BK2.out hg7 (Kd.R_ne HOa.out BK2.out (by decide))); have HO7 := Aside0.mk ho7; have HB7 := Aside0.mk hb7; clear ho7 hb7 hg7 hat7)
      go_roundg kq
      case measure => omega
      case rel => exact ⟨k + 1, by omega, by go_num, ⟨by rw [HS.out]; exact HO7.out⟩, BK7, HB7⟩
end Go.Proofs.Ytmcbniobbbjdjaa.Tree
