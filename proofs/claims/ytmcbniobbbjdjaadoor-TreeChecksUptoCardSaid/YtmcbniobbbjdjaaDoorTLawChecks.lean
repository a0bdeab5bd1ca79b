/- The law TreeChecks by contract, at trees that weigh no more than the bound, where the package errors' variable is laid. No conditions but those told. -/
import Derived.Test.YtmcbniobbbjdjaaDoorTSmall
import Derived.Test.YtmcbniobbbjdjaaDoorTAlive
import Derived.Test.YtmcbniobbbjdjaaDoorTRoomy
import Derived.Test.YtmcbniobbbjdjaaDoorTKept
import Derived.Test.YtmcbniobbbjdjaaDoorTErrs
namespace Go.Proofs.YtmcbniobbbjdjaaDoor.Tree
open Go.RowKit Go.Proofs.YtmcbniobbbjdjaaDoorW.PrintWords Go.Proofs.YtmcbniobbbjdjaaDoorW.PrintLast Go.Proofs.YtmcbniobbbjdjaaDoorW.PrintMore
set_option linter.unusedVariables false
set_option linter.unusedSimpArgs false
theorem isB_self (x : Option (Int × Int)) : isB x (codeOf x) (placeOf x) = true := by unfold isB; simp
set_option maxRecDepth 100000 in
set_option maxHeartbeats 16000000 in
theorem checks_calls (v : Value) (g : Ge) (w : World) (hv : IsG w v g) (hbk : g.bulk ≤ 1048576) (hh : Handle w) :
    Calls Tryd.prog 3 #[v] w fun e w' => e = .returned (.bool true) ∧ Below w.heap.size w w' := by
  have HV := Aside0.mk hv
  have HH0 := Aside0.mk hh
  obtain ⟨A1, c1, A2, c2, A3, c3, rfl, _⟩ := hv
  clear hh
  have hun := Tryd.underlying26
  go_enter Tryd.func3, Tryd.ntmps3
  go_wp2_with fail
  obtain ⟨ga, hga⟩ : ∃ x, x = w.heap.size := ⟨_, rfl⟩
  obtain ⟨W0, hW0⟩ : ∃ x, x = w.alloc (.cells #[.int .i64 g.f0, .slice A1 g.f1.length c1, .slice A2 g.f2.length c2, .slice A3 g.f3.length c3] 26) := ⟨_, rfl⟩
  rw [← hW0, ← hga]
  have KA := Aside0.mk (show W0.heap[ga]? = some (.cells #[.int .i64 g.f0, .slice A1 g.f1.length c1, .slice A2 g.f2.length c2, .slice A3 g.f3.length c3] 26 (0, 0)) by rw [hW0, hga]; exact World.alloc_heap_new _ _)
  have HB := Aside0.mk (show Below w.heap.size w W0 by rw [hW0]; exact below_alloc (Below.refl _ _) _)
  have IA := Aside0.mk (HV.out.below HB.out)
  have HH := Aside0.mk (Handle_below HH0.out HB.out)
  clear hW0 hga HH0
  obtain ⟨cd, hcd⟩ : ∃ x, x = codeOf (checkR g) := ⟨_, rfl⟩
  obtain ⟨pl, hpl⟩ : ∃ x, x = placeOf (checkR g) := ⟨_, rfl⟩
  have HIS := Aside0.mk (show isB (checkR g) cd pl = true by rw [hcd, hpl]; exact isB_self _)
  have HCD := Aside0.mk (And.intro hcd hpl)
  clear hcd hpl
  refine (rcheck_calls _ g W0 IA.out (by omega)).mono ?_
  rintro e W1 ⟨rfl, hb_⟩
  rw [← HCD.out.1, ← HCD.out.2]
  have n_ := Aside0.mk (blk_below KA.out hb_)
  clear KA
  have KA := n_
  clear n_
  have n_ := Aside0.mk (IA.out.below hb_)
  clear IA
  have IA := n_
  clear n_
  have n_ := Aside0.mk (below_step HB.out hb_)
  clear HB
  have HB := n_
  clear n_
  have n_ := Aside0.mk (Handle_below HH.out hb_)
  clear HH
  have HH := n_
  clear n_
  clear hb_
  have zA0_ : W1.cell? ⟨ga, 0, none⟩ = some (.int .i64 g.f0) := (blk_cell KA.out 0).trans rfl
  have zA1_ : W1.cell? ⟨ga, 1, none⟩ = some (.slice A1 g.f1.length c1) := (blk_cell KA.out 1).trans rfl
  have zA2_ : W1.cell? ⟨ga, 2, none⟩ = some (.slice A2 g.f2.length c2) := (blk_cell KA.out 2).trans rfl
  have zA3_ : W1.cell? ⟨ga, 3, none⟩ = some (.slice A3 g.f3.length c3) := (blk_cell KA.out 3).trans rfl
  go_wp2_with fail
  clear zA0_ zA1_ zA2_ zA3_
  refine (small_calls _ g W1 IA.out (by omega)).mono ?_
  rintro e W2 ⟨rfl, hb_⟩
  have n_ := Aside0.mk (blk_below KA.out hb_)
  clear KA
  have KA := n_
  clear n_
  have n_ := Aside0.mk (IA.out.below hb_)
  clear IA
  have IA := n_
  clear n_
  have n_ := Aside0.mk (below_step HB.out hb_)
  clear HB
  have HB := n_
  clear n_
  have n_ := Aside0.mk (Handle_below HH.out hb_)
  clear HH
  have HH := n_
  clear n_
  clear hb_
  have zA0_ : W2.cell? ⟨ga, 0, none⟩ = some (.int .i64 g.f0) := (blk_cell KA.out 0).trans rfl
  have zA1_ : W2.cell? ⟨ga, 1, none⟩ = some (.slice A1 g.f1.length c1) := (blk_cell KA.out 1).trans rfl
  have zA2_ : W2.cell? ⟨ga, 2, none⟩ = some (.slice A2 g.f2.length c2) := (blk_cell KA.out 2).trans rfl
  have zA3_ : W2.cell? ⟨ga, 3, none⟩ = some (.slice A3 g.f3.length c3) := (blk_cell KA.out 3).trans rfl
  cases hs1 : isSmall g with
  | false =>
    clear hs1
    go_wp2_with fail
    clear zA0_ zA1_ zA2_ zA3_
    refine (alive_calls W2).mono ?_
    rintro e W3 ⟨rfl, hb_⟩
    have n_ := Aside0.mk (blk_below KA.out hb_)
    clear KA
    have KA := n_
    clear n_
    have n_ := Aside0.mk (IA.out.below hb_)
    clear IA
    have IA := n_
    clear n_
    have n_ := Aside0.mk (below_step HB.out hb_)
    clear HB
    have HB := n_
    clear n_
    have n_ := Aside0.mk (Handle_below HH.out hb_)
    clear HH
    have HH := n_
    clear n_
    clear hb_
    have zA0_ : W3.cell? ⟨ga, 0, none⟩ = some (.int .i64 g.f0) := (blk_cell KA.out 0).trans rfl
    have zA1_ : W3.cell? ⟨ga, 1, none⟩ = some (.slice A1 g.f1.length c1) := (blk_cell KA.out 1).trans rfl
    have zA2_ : W3.cell? ⟨ga, 2, none⟩ = some (.slice A2 g.f2.length c2) := (blk_cell KA.out 2).trans rfl
    have zA3_ : W3.cell? ⟨ga, 3, none⟩ = some (.slice A3 g.f3.length c3) := (blk_cell KA.out 3).trans rfl
    go_wp2_with fail
    clear zA0_ zA1_ zA2_ zA3_
    refine (check_calls _ g W3 IA.out (by omega)).mono ?_
    rintro e W4 ⟨ue, rfl, he_, hb_⟩
    have EE := Aside0.mk he_
    clear he_
    have n_ := Aside0.mk (blk_below KA.out hb_)
    clear KA
    have KA := n_
    clear n_
    have n_ := Aside0.mk (IA.out.below hb_)
    clear IA
    have IA := n_
    clear n_
    have n_ := Aside0.mk (below_step HB.out hb_)
    clear HB
    have HB := n_
    clear n_
    have n_ := Aside0.mk (Handle_below HH.out hb_)
    clear HH
    have HH := n_
    clear n_
    clear hb_
    have zA0_ : W4.cell? ⟨ga, 0, none⟩ = some (.int .i64 g.f0) := (blk_cell KA.out 0).trans rfl
    have zA1_ : W4.cell? ⟨ga, 1, none⟩ = some (.slice A1 g.f1.length c1) := (blk_cell KA.out 1).trans rfl
    have zA2_ : W4.cell? ⟨ga, 2, none⟩ = some (.slice A2 g.f2.length c2) := (blk_cell KA.out 2).trans rfl
    have zA3_ : W4.cell? ⟨ga, 3, none⟩ = some (.slice A3 g.f3.length c3) := (blk_cell KA.out 3).trans rfl
    go_wp2_with fail
    clear zA0_ zA1_ zA2_ zA3_
    refine (is_calls ue (checkR g) cd pl W4 HH.out EE.out).mono ?_
    rintro e W5 ⟨rfl, hb_⟩
    rw [HIS.out]
    have n_ := Aside0.mk (blk_below KA.out hb_)
    clear KA
    have KA := n_
    clear n_
    have n_ := Aside0.mk (IA.out.below hb_)
    clear IA
    have IA := n_
    clear n_
    have n_ := Aside0.mk (below_step HB.out hb_)
    clear HB
    have HB := n_
    clear n_
    have n_ := Aside0.mk (Handle_below HH.out hb_)
    clear HH
    have HH := n_
    clear n_
    have n_ := Aside0.mk (EE.out.below hb_)
    clear EE
    have EE := n_
    clear n_
    clear hb_
    have zA0_ : W5.cell? ⟨ga, 0, none⟩ = some (.int .i64 g.f0) := (blk_cell KA.out 0).trans rfl
    have zA1_ : W5.cell? ⟨ga, 1, none⟩ = some (.slice A1 g.f1.length c1) := (blk_cell KA.out 1).trans rfl
    have zA2_ : W5.cell? ⟨ga, 2, none⟩ = some (.slice A2 g.f2.length c2) := (blk_cell KA.out 2).trans rfl
    have zA3_ : W5.cell? ⟨ga, 3, none⟩ = some (.slice A3 g.f3.length c3) := (blk_cell KA.out 3).trans rfl
    go_wp2_with fail
    go_ret
    exact ⟨rfl, HB.out⟩
  | true =>
    clear hs1
    go_wp2_with fail
    clear zA0_ zA1_ zA2_ zA3_
    refine (roomy_calls g.bulk _ g W2 IA.out (Nat.le_refl _) (by omega)).mono ?_
    rintro e W3 ⟨cs, rfl, hM, hb_⟩
    have hK := (kRm g.bulk).K_of_M hM
    obtain ⟨E1, e1, E2, e2, E3, e3, rfl, _⟩ := kGe_open (kRm_isK _ _ _ _ hK)
    have n_ := Aside0.mk (blk_below KA.out hb_)
    clear KA
    have KA := n_
    clear n_
    have n_ := Aside0.mk (IA.out.below hb_)
    clear IA
    have IA := n_
    clear n_
    have n_ := Aside0.mk (below_step HB.out hb_)
    clear HB
    have HB := n_
    clear n_
    have n_ := Aside0.mk (Handle_below HH.out hb_)
    clear HH
    have HH := n_
    clear n_
    clear hb_
    have RX := Aside0.mk (show RoomyAt g.bulk W3 (.agg #[.int .i64 g.f0, .slice E1 g.f1.length e1, .slice E2 g.f2.length e2, .slice E3 g.f3.length e3]) g from ⟨_, rfl, hK⟩)
    clear hM hK
    have zA0_ : (W3.alloc (.cells #[.int .i64 g.f0, .slice E1 g.f1.length e1, .slice E2 g.f2.length e2, .slice E3 g.f3.length e3] 26)).cell? ⟨ga, 0, none⟩ = some (.int .i64 g.f0) := (blk_cell (blk_alloc KA.out _) 0).trans rfl
    have zA1_ : (W3.alloc (.cells #[.int .i64 g.f0, .slice E1 g.f1.length e1, .slice E2 g.f2.length e2, .slice E3 g.f3.length e3] 26)).cell? ⟨ga, 1, none⟩ = some (.slice A1 g.f1.length c1) := (blk_cell (blk_alloc KA.out _) 1).trans rfl
    have zA2_ : (W3.alloc (.cells #[.int .i64 g.f0, .slice E1 g.f1.length e1, .slice E2 g.f2.length e2, .slice E3 g.f3.length e3] 26)).cell? ⟨ga, 2, none⟩ = some (.slice A2 g.f2.length c2) := (blk_cell (blk_alloc KA.out _) 2).trans rfl
    have zA3_ : (W3.alloc (.cells #[.int .i64 g.f0, .slice E1 g.f1.length e1, .slice E2 g.f2.length e2, .slice E3 g.f3.length e3] 26)).cell? ⟨ga, 3, none⟩ = some (.slice A3 g.f3.length c3) := (blk_cell (blk_alloc KA.out _) 3).trans rfl
    go_wp2_with fail
    clear zA0_ zA1_ zA2_ zA3_
    obtain ⟨gx, hgx_⟩ : ∃ x, x = W3.heap.size := ⟨_, rfl⟩
    obtain ⟨W4, hW4_⟩ : ∃ x, x = W3.alloc (.cells #[.int .i64 g.f0, .slice E1 g.f1.length e1, .slice E2 g.f2.length e2, .slice E3 g.f3.length e3] 26) := ⟨_, rfl⟩
    rw [← hW4_, ← hgx_]
    have KX := Aside0.mk (show W4.heap[gx]? = some (.cells #[.int .i64 g.f0, .slice E1 g.f1.length e1, .slice E2 g.f2.length e2, .slice E3 g.f3.length e3] 26 (0, 0)) by rw [hW4_, hgx_]; exact World.alloc_heap_new _ _)
    have hb_ : Below W3.heap.size W3 W4 := by rw [hW4_]; exact below_alloc (Below.refl _ _) _
    clear hW4_ hgx_
    have n_ := Aside0.mk (blk_below KA.out hb_)
    clear KA
    have KA := n_
    clear n_
    have n_ := Aside0.mk (IA.out.below hb_)
    clear IA
    have IA := n_
    clear n_
    have n_ := Aside0.mk (below_step HB.out hb_)
    clear HB
    have HB := n_
    clear n_
    have n_ := Aside0.mk (Handle_below HH.out hb_)
    clear HH
    have HH := n_
    clear n_
    have n_ := Aside0.mk (RX.out.below hb_)
    clear RX
    have RX := n_
    clear n_
    clear hb_
    refine (check_calls _ g W4 RX.out.isG (by omega)).mono ?_
    rintro e W5 ⟨ue, rfl, he_, hb_⟩
    have EE := Aside0.mk he_
    clear he_
    have n_ := Aside0.mk (blk_below KA.out hb_)
    clear KA
    have KA := n_
    clear n_
    have n_ := Aside0.mk (IA.out.below hb_)
    clear IA
    have IA := n_
    clear n_
    have n_ := Aside0.mk (below_step HB.out hb_)
    clear HB
    have HB := n_
    clear n_
    have n_ := Aside0.mk (Handle_below HH.out hb_)
    clear HH
    have HH := n_
    clear n_
    have n_ := Aside0.mk (RX.out.below hb_)
    clear RX
    have RX := n_
    clear n_
    have n_ := Aside0.mk (blk_below KX.out hb_)
    clear KX
    have KX := n_
    clear n_
    clear hb_
    have zA0_ : W5.cell? ⟨ga, 0, none⟩ = some (.int .i64 g.f0) := (blk_cell KA.out 0).trans rfl
    have zA1_ : W5.cell? ⟨ga, 1, none⟩ = some (.slice A1 g.f1.length c1) := (blk_cell KA.out 1).trans rfl
    have zA2_ : W5.cell? ⟨ga, 2, none⟩ = some (.slice A2 g.f2.length c2) := (blk_cell KA.out 2).trans rfl
    have zA3_ : W5.cell? ⟨ga, 3, none⟩ = some (.slice A3 g.f3.length c3) := (blk_cell KA.out 3).trans rfl
    have zX0_ : W5.cell? ⟨gx, 0, none⟩ = some (.int .i64 g.f0) := (blk_cell KX.out 0).trans rfl
    have zX1_ : W5.cell? ⟨gx, 1, none⟩ = some (.slice E1 g.f1.length e1) := (blk_cell KX.out 1).trans rfl
    have zX2_ : W5.cell? ⟨gx, 2, none⟩ = some (.slice E2 g.f2.length e2) := (blk_cell KX.out 2).trans rfl
    have zX3_ : W5.cell? ⟨gx, 3, none⟩ = some (.slice E3 g.f3.length e3) := (blk_cell KX.out 3).trans rfl
    go_wp2_with fail
    clear zA0_ zA1_ zA2_ zA3_ zX0_ zX1_ zX2_ zX3_
    refine (alive_calls W5).mono ?_
    rintro e W6 ⟨rfl, hb_⟩
    have n_ := Aside0.mk (blk_below KA.out hb_)
    clear KA
    have KA := n_
    clear n_
    have n_ := Aside0.mk (IA.out.below hb_)
    clear IA
    have IA := n_
    clear n_
    have n_ := Aside0.mk (below_step HB.out hb_)
    clear HB
    have HB := n_
    clear n_
    have n_ := Aside0.mk (Handle_below HH.out hb_)
    clear HH
    have HH := n_
    clear n_
    have n_ := Aside0.mk (RX.out.below hb_)
    clear RX
    have RX := n_
    clear n_
    have n_ := Aside0.mk (blk_below KX.out hb_)
    clear KX
    have KX := n_
    clear n_
    have n_ := Aside0.mk (EE.out.below hb_)
    clear EE
    have EE := n_
    clear n_
    clear hb_
    have zA0_ : W6.cell? ⟨ga, 0, none⟩ = some (.int .i64 g.f0) := (blk_cell KA.out 0).trans rfl
    have zA1_ : W6.cell? ⟨ga, 1, none⟩ = some (.slice A1 g.f1.length c1) := (blk_cell KA.out 1).trans rfl
    have zA2_ : W6.cell? ⟨ga, 2, none⟩ = some (.slice A2 g.f2.length c2) := (blk_cell KA.out 2).trans rfl
    have zA3_ : W6.cell? ⟨ga, 3, none⟩ = some (.slice A3 g.f3.length c3) := (blk_cell KA.out 3).trans rfl
    have zX0_ : W6.cell? ⟨gx, 0, none⟩ = some (.int .i64 g.f0) := (blk_cell KX.out 0).trans rfl
    have zX1_ : W6.cell? ⟨gx, 1, none⟩ = some (.slice E1 g.f1.length e1) := (blk_cell KX.out 1).trans rfl
    have zX2_ : W6.cell? ⟨gx, 2, none⟩ = some (.slice E2 g.f2.length e2) := (blk_cell KX.out 2).trans rfl
    have zX3_ : W6.cell? ⟨gx, 3, none⟩ = some (.slice E3 g.f3.length e3) := (blk_cell KX.out 3).trans rfl
    go_wp2_with fail
    clear zA0_ zA1_ zA2_ zA3_ zX0_ zX1_ zX2_ zX3_
    refine (is_calls ue (checkR g) cd pl W6 HH.out EE.out).mono ?_
    rintro e W7 ⟨rfl, hb_⟩
    rw [HIS.out]
    have n_ := Aside0.mk (blk_below KA.out hb_)
    clear KA
    have KA := n_
    clear n_
    have n_ := Aside0.mk (IA.out.below hb_)
    clear IA
    have IA := n_
    clear n_
    have n_ := Aside0.mk (below_step HB.out hb_)
    clear HB
    have HB := n_
    clear n_
    have n_ := Aside0.mk (Handle_below HH.out hb_)
    clear HH
    have HH := n_
    clear n_
    have n_ := Aside0.mk (RX.out.below hb_)
    clear RX
    have RX := n_
    clear n_
    have n_ := Aside0.mk (blk_below KX.out hb_)
    clear KX
    have KX := n_
    clear n_
    have n_ := Aside0.mk (EE.out.below hb_)
    clear EE
    have EE := n_
    clear n_
    clear hb_
    have zA0_ : W7.cell? ⟨ga, 0, none⟩ = some (.int .i64 g.f0) := (blk_cell KA.out 0).trans rfl
    have zA1_ : W7.cell? ⟨ga, 1, none⟩ = some (.slice A1 g.f1.length c1) := (blk_cell KA.out 1).trans rfl
    have zA2_ : W7.cell? ⟨ga, 2, none⟩ = some (.slice A2 g.f2.length c2) := (blk_cell KA.out 2).trans rfl
    have zA3_ : W7.cell? ⟨ga, 3, none⟩ = some (.slice A3 g.f3.length c3) := (blk_cell KA.out 3).trans rfl
    have zX0_ : W7.cell? ⟨gx, 0, none⟩ = some (.int .i64 g.f0) := (blk_cell KX.out 0).trans rfl
    have zX1_ : W7.cell? ⟨gx, 1, none⟩ = some (.slice E1 g.f1.length e1) := (blk_cell KX.out 1).trans rfl
    have zX2_ : W7.cell? ⟨gx, 2, none⟩ = some (.slice E2 g.f2.length e2) := (blk_cell KX.out 2).trans rfl
    have zX3_ : W7.cell? ⟨gx, 3, none⟩ = some (.slice E3 g.f3.length e3) := (blk_cell KX.out 3).trans rfl
    go_wp2_with fail
    clear zA0_ zA1_ zA2_ zA3_ zX0_ zX1_ zX2_ zX3_
    refine (kept_calls g.bulk _ _ g W7 RX.out IA.out (by omega)).mono ?_
    rintro e W8 ⟨rfl, hb_⟩
    have n_ := Aside0.mk (blk_below KA.out hb_)
    clear KA
    have KA := n_
    clear n_
    have n_ := Aside0.mk (IA.out.below hb_)
    clear IA
    have IA := n_
    clear n_
    have n_ := Aside0.mk (below_step HB.out hb_)
    clear HB
    have HB := n_
    clear n_
    have n_ := Aside0.mk (Handle_below HH.out hb_)
    clear HH
    have HH := n_
    clear n_
    have n_ := Aside0.mk (RX.out.below hb_)
    clear RX
    have RX := n_
    clear n_
    have n_ := Aside0.mk (blk_below KX.out hb_)
    clear KX
    have KX := n_
    clear n_
    have n_ := Aside0.mk (EE.out.below hb_)
    clear EE
    have EE := n_
    clear n_
    clear hb_
    have zA0_ : W8.cell? ⟨ga, 0, none⟩ = some (.int .i64 g.f0) := (blk_cell KA.out 0).trans rfl
    have zA1_ : W8.cell? ⟨ga, 1, none⟩ = some (.slice A1 g.f1.length c1) := (blk_cell KA.out 1).trans rfl
    have zA2_ : W8.cell? ⟨ga, 2, none⟩ = some (.slice A2 g.f2.length c2) := (blk_cell KA.out 2).trans rfl
    have zA3_ : W8.cell? ⟨ga, 3, none⟩ = some (.slice A3 g.f3.length c3) := (blk_cell KA.out 3).trans rfl
    have zX0_ : W8.cell? ⟨gx, 0, none⟩ = some (.int .i64 g.f0) := (blk_cell KX.out 0).trans rfl
    have zX1_ : W8.cell? ⟨gx, 1, none⟩ = some (.slice E1 g.f1.length e1) := (blk_cell KX.out 1).trans rfl
    have zX2_ : W8.cell? ⟨gx, 2, none⟩ = some (.slice E2 g.f2.length e2) := (blk_cell KX.out 2).trans rfl
    have zX3_ : W8.cell? ⟨gx, 3, none⟩ = some (.slice E3 g.f3.length e3) := (blk_cell KX.out 3).trans rfl
    go_wp2_with fail
    go_ret
    exact ⟨rfl, HB.out⟩
end Go.Proofs.YtmcbniobbbjdjaaDoor.Tree
