/- The law TreeEquals by contract, at trees that weigh no more than the bound. No conditions but those told. -/
import Derived.Test.YtmcbniobbbjdjaaTSmall
import Derived.Test.YtmcbniobbbjdjaaTAlive
import Derived.Test.YtmcbniobbbjdjaaTRoomy
import Derived.Test.YtmcbniobbbjdjaaTKept
import Derived.Test.YtmcbniobbbjdjaaTEqual
namespace Go.Proofs.Ytmcbniobbbjdjaa.Tree
open Go.RowKit Go.Proofs.YtmcbniobbbjdjaaW.PrintWords Go.Proofs.YtmcbniobbbjdjaaW.PrintLast Go.Proofs.YtmcbniobbbjdjaaW.PrintMore
set_option linter.unusedVariables false
set_option linter.unusedSimpArgs false
set_option maxRecDepth 100000 in
set_option maxHeartbeats 8000000 in
theorem equals_calls (v u : Value) (a b : Ge) (w : World) (hv : IsG w v a) (hu : IsG w u b) (hbk : a.bulk ≤ 1048576) (hbl : b.bulk ≤ 1048576) :
    Calls Try.prog 5 #[v, u] w fun e w' => e = .returned (.bool true) ∧ Below w.heap.size w w' := by
  have HV := Aside0.mk hv
  have HU := Aside0.mk hu
  obtain ⟨A1, c1, A2, c2, A3, c3, rfl, _⟩ := hv
  obtain ⟨D1, d1, D2, d2, D3, d3, rfl, _⟩ := hu
  have hun := Try.underlying26
  have HB0 := Aside0.mk (Below.refl w.heap.size w)
  have hmx : Try.prog.follows .mixedOrders = true := by kernel_rfl
  go_enter Try.func5, Try.ntmps5
  go_wp2_with fail
  obtain ⟨ga, hga⟩ : ∃ x, x = w.heap.size := ⟨_, rfl⟩
  obtain ⟨gb, hgb⟩ : ∃ x, x = w.heap.size + 1 := ⟨_, rfl⟩
  obtain ⟨W0, hW0⟩ : ∃ x, x = ((w.alloc (.cells #[.int .i64 a.f0, .slice A1 a.f1.length c1, .slice A2 a.f2.length c2, .slice A3 a.f3.length c3] 26)).alloc (.cells #[.int .i64 b.f0, .slice D1 b.f1.length d1, .slice D2 b.f2.length d2, .slice D3 b.f3.length d3] 26)) := ⟨_, rfl⟩
  rw [← hW0, ← hgb, ← hga]
  have KA := Aside0.mk (show W0.heap[ga]? = some (.cells #[.int .i64 a.f0, .slice A1 a.f1.length c1, .slice A2 a.f2.length c2, .slice A3 a.f3.length c3] 26 (0, 0)) by rw [hW0, hga]; exact blk_alloc (World.alloc_heap_new _ _) _)
  have KB := Aside0.mk (show W0.heap[gb]? = some (.cells #[.int .i64 b.f0, .slice D1 b.f1.length d1, .slice D2 b.f2.length d2, .slice D3 b.f3.length d3] 26 (0, 0)) by
    rw [hW0, hgb]
    have h := World.alloc_heap_new (w.alloc (.cells #[.int .i64 a.f0, .slice A1 a.f1.length c1, .slice A2 a.f2.length c2, .slice A3 a.f3.length c3] 26)) (.cells #[.int .i64 b.f0, .slice D1 b.f1.length d1, .slice D2 b.f2.length d2, .slice D3 b.f3.length d3] 26)
    simpa using h)
  have HB := Aside0.mk (show Below w.heap.size w W0 by rw [hW0]; exact below_alloc (below_alloc (Below.refl _ _) _) _)
  have HA := Aside0.mk (HV.out.below HB.out)
  have HG := Aside0.mk (HU.out.below HB.out)
  clear hW0 hga hgb HB0
  refine (small_calls _ a W0 HA.out (by omega)).mono ?_
  rintro e W1 ⟨rfl, hb_⟩
  have n_ := Aside0.mk (blk_below KA.out hb_)
  clear KA
  have KA := n_
  clear n_
  have n_ := Aside0.mk (blk_below KB.out hb_)
  clear KB
  have KB := n_
  clear n_
  have n_ := Aside0.mk (HA.out.below hb_)
  clear HA
  have HA := n_
  clear n_
  have n_ := Aside0.mk (HG.out.below hb_)
  clear HG
  have HG := n_
  clear n_
  have n_ := Aside0.mk (below_step HB.out hb_)
  clear HB
  have HB := n_
  clear n_
  clear hb_
  have zA0_ : W1.cell? ⟨ga, 0, none⟩ = some (.int .i64 a.f0) := (blk_cell KA.out 0).trans rfl
  have zA1_ : W1.cell? ⟨ga, 1, none⟩ = some (.slice A1 a.f1.length c1) := (blk_cell KA.out 1).trans rfl
  have zA2_ : W1.cell? ⟨ga, 2, none⟩ = some (.slice A2 a.f2.length c2) := (blk_cell KA.out 2).trans rfl
  have zA3_ : W1.cell? ⟨ga, 3, none⟩ = some (.slice A3 a.f3.length c3) := (blk_cell KA.out 3).trans rfl
  have zB0_ : W1.cell? ⟨gb, 0, none⟩ = some (.int .i64 b.f0) := (blk_cell KB.out 0).trans rfl
  have zB1_ : W1.cell? ⟨gb, 1, none⟩ = some (.slice D1 b.f1.length d1) := (blk_cell KB.out 1).trans rfl
  have zB2_ : W1.cell? ⟨gb, 2, none⟩ = some (.slice D2 b.f2.length d2) := (blk_cell KB.out 2).trans rfl
  have zB3_ : W1.cell? ⟨gb, 3, none⟩ = some (.slice D3 b.f3.length d3) := (blk_cell KB.out 3).trans rfl
  cases hs1 : isSmall a with
  | false =>
    go_wp2_with fail
    refine (alive_calls W1).mono ?_
    rintro e w9 ⟨rfl, hb9⟩
    have HB9 := Aside0.mk (below_step HB.out hb9)
    clear hb9
    go_wp2_with fail
    go_ret
    exact ⟨rfl, HB9.out⟩
  | true =>
    clear hs1
    go_wp2_with fail
    clear zA0_ zA1_ zA2_ zA3_ zB0_ zB1_ zB2_ zB3_
    refine (small_calls _ b W1 HG.out (by omega)).mono ?_
    rintro e W2 ⟨rfl, hb_⟩
    have n_ := Aside0.mk (blk_below KA.out hb_)
    clear KA
    have KA := n_
    clear n_
    have n_ := Aside0.mk (blk_below KB.out hb_)
    clear KB
    have KB := n_
    clear n_
    have n_ := Aside0.mk (HA.out.below hb_)
    clear HA
    have HA := n_
    clear n_
    have n_ := Aside0.mk (HG.out.below hb_)
    clear HG
    have HG := n_
    clear n_
    have n_ := Aside0.mk (below_step HB.out hb_)
    clear HB
    have HB := n_
    clear n_
    clear hb_
    have zA0_ : W2.cell? ⟨ga, 0, none⟩ = some (.int .i64 a.f0) := (blk_cell KA.out 0).trans rfl
    have zA1_ : W2.cell? ⟨ga, 1, none⟩ = some (.slice A1 a.f1.length c1) := (blk_cell KA.out 1).trans rfl
    have zA2_ : W2.cell? ⟨ga, 2, none⟩ = some (.slice A2 a.f2.length c2) := (blk_cell KA.out 2).trans rfl
    have zA3_ : W2.cell? ⟨ga, 3, none⟩ = some (.slice A3 a.f3.length c3) := (blk_cell KA.out 3).trans rfl
    have zB0_ : W2.cell? ⟨gb, 0, none⟩ = some (.int .i64 b.f0) := (blk_cell KB.out 0).trans rfl
    have zB1_ : W2.cell? ⟨gb, 1, none⟩ = some (.slice D1 b.f1.length d1) := (blk_cell KB.out 1).trans rfl
    have zB2_ : W2.cell? ⟨gb, 2, none⟩ = some (.slice D2 b.f2.length d2) := (blk_cell KB.out 2).trans rfl
    have zB3_ : W2.cell? ⟨gb, 3, none⟩ = some (.slice D3 b.f3.length d3) := (blk_cell KB.out 3).trans rfl
    cases hs2 : isSmall b with
    | false =>
      go_wp2_with fail
      refine (alive_calls W2).mono ?_
      rintro e w9 ⟨rfl, hb9⟩
      have HB9 := Aside0.mk (below_step HB.out hb9)
      clear hb9
      go_wp2_with fail
      go_ret
      exact ⟨rfl, HB9.out⟩
    | true =>
      clear hs2
      go_wp2_with fail
      clear zA0_ zA1_ zA2_ zA3_ zB0_ zB1_ zB2_ zB3_
      refine (roomy_calls a.bulk _ a W2 HA.out (Nat.le_refl _) (by omega)).mono ?_
      rintro e W3 ⟨cs, rfl, hM, hb_⟩
      have hK := (kRm a.bulk).K_of_M hM
      obtain ⟨E1, e1, E2, e2, E3, e3, rfl, _⟩ := kGe_open (kRm_isK _ _ _ _ hK)
      have n_ := Aside0.mk (blk_below KA.out hb_)
      clear KA
      have KA := n_
      clear n_
      have n_ := Aside0.mk (blk_below KB.out hb_)
      clear KB
      have KB := n_
      clear n_
      have n_ := Aside0.mk (HA.out.below hb_)
      clear HA
      have HA := n_
      clear n_
      have n_ := Aside0.mk (HG.out.below hb_)
      clear HG
      have HG := n_
      clear n_
      have n_ := Aside0.mk (below_step HB.out hb_)
      clear HB
      have HB := n_
      clear n_
      clear hb_
      have RX := Aside0.mk (show RoomyAt a.bulk W3 (.agg #[.int .i64 a.f0, .slice E1 a.f1.length e1, .slice E2 a.f2.length e2, .slice E3 a.f3.length e3]) a from ⟨_, rfl, hK⟩)
      clear hM hK
      have zA0_ : (W3.alloc (.cells #[.int .i64 a.f0, .slice E1 a.f1.length e1, .slice E2 a.f2.length e2, .slice E3 a.f3.length e3] 26)).cell? ⟨ga, 0, none⟩ = some (.int .i64 a.f0) := (blk_cell (blk_alloc KA.out _) 0).trans rfl
      have zA1_ : (W3.alloc (.cells #[.int .i64 a.f0, .slice E1 a.f1.length e1, .slice E2 a.f2.length e2, .slice E3 a.f3.length e3] 26)).cell? ⟨ga, 1, none⟩ = some (.slice A1 a.f1.length c1) := (blk_cell (blk_alloc KA.out _) 1).trans rfl
      have zA2_ : (W3.alloc (.cells #[.int .i64 a.f0, .slice E1 a.f1.length e1, .slice E2 a.f2.length e2, .slice E3 a.f3.length e3] 26)).cell? ⟨ga, 2, none⟩ = some (.slice A2 a.f2.length c2) := (blk_cell (blk_alloc KA.out _) 2).trans rfl
      have zA3_ : (W3.alloc (.cells #[.int .i64 a.f0, .slice E1 a.f1.length e1, .slice E2 a.f2.length e2, .slice E3 a.f3.length e3] 26)).cell? ⟨ga, 3, none⟩ = some (.slice A3 a.f3.length c3) := (blk_cell (blk_alloc KA.out _) 3).trans rfl
      have zB0_ : (W3.alloc (.cells #[.int .i64 a.f0, .slice E1 a.f1.length e1, .slice E2 a.f2.length e2, .slice E3 a.f3.length e3] 26)).cell? ⟨gb, 0, none⟩ = some (.int .i64 b.f0) := (blk_cell (blk_alloc KB.out _) 0).trans rfl
      have zB1_ : (W3.alloc (.cells #[.int .i64 a.f0, .slice E1 a.f1.length e1, .slice E2 a.f2.length e2, .slice E3 a.f3.length e3] 26)).cell? ⟨gb, 1, none⟩ = some (.slice D1 b.f1.length d1) := (blk_cell (blk_alloc KB.out _) 1).trans rfl
      have zB2_ : (W3.alloc (.cells #[.int .i64 a.f0, .slice E1 a.f1.length e1, .slice E2 a.f2.length e2, .slice E3 a.f3.length e3] 26)).cell? ⟨gb, 2, none⟩ = some (.slice D2 b.f2.length d2) := (blk_cell (blk_alloc KB.out _) 2).trans rfl
      have zB3_ : (W3.alloc (.cells #[.int .i64 a.f0, .slice E1 a.f1.length e1, .slice E2 a.f2.length e2, .slice E3 a.f3.length e3] 26)).cell? ⟨gb, 3, none⟩ = some (.slice D3 b.f3.length d3) := (blk_cell (blk_alloc KB.out _) 3).trans rfl
      go_wp2_with fail
      clear zA0_ zA1_ zA2_ zA3_ zB0_ zB1_ zB2_ zB3_
      obtain ⟨gx, hgx_⟩ : ∃ x, x = W3.heap.size := ⟨_, rfl⟩
      obtain ⟨W4, hW4_⟩ : ∃ x, x = W3.alloc (.cells #[.int .i64 a.f0, .slice E1 a.f1.length e1, .slice E2 a.f2.length e2, .slice E3 a.f3.length e3] 26) := ⟨_, rfl⟩
      rw [← hW4_, ← hgx_]
      have KX := Aside0.mk (show W4.heap[gx]? = some (.cells #[.int .i64 a.f0, .slice E1 a.f1.length e1, .slice E2 a.f2.length e2, .slice E3 a.f3.length e3] 26 (0, 0)) by rw [hW4_, hgx_]; exact World.alloc_heap_new _ _)
      have hb_ : Below W3.heap.size W3 W4 := by rw [hW4_]; exact below_alloc (Below.refl _ _) _
      clear hW4_ hgx_
      have n_ := Aside0.mk (blk_below KA.out hb_)
      clear KA
      have KA := n_
      clear n_
      have n_ := Aside0.mk (blk_below KB.out hb_)
      clear KB
      have KB := n_
      clear n_
      have n_ := Aside0.mk (HA.out.below hb_)
      clear HA
      have HA := n_
      clear n_
      have n_ := Aside0.mk (HG.out.below hb_)
      clear HG
      have HG := n_
      clear n_
      have n_ := Aside0.mk (below_step HB.out hb_)
      clear HB
      have HB := n_
      clear n_
      have n_ := Aside0.mk (RX.out.below hb_)
      clear RX
      have RX := n_
      clear n_
      clear hb_
      refine (roomy_calls b.bulk _ b W4 HG.out (Nat.le_refl _) (by omega)).mono ?_
      rintro e W5 ⟨cs, rfl, hM, hb_⟩
      have hK := (kRm b.bulk).K_of_M hM
      obtain ⟨F1, f1, F2, f2, F3, f3, rfl, _⟩ := kGe_open (kRm_isK _ _ _ _ hK)
      have n_ := Aside0.mk (blk_below KA.out hb_)
      clear KA
      have KA := n_
      clear n_
      have n_ := Aside0.mk (blk_below KB.out hb_)
      clear KB
      have KB := n_
      clear n_
      have n_ := Aside0.mk (HA.out.below hb_)
      clear HA
      have HA := n_
      clear n_
      have n_ := Aside0.mk (HG.out.below hb_)
      clear HG
      have HG := n_
      clear n_
      have n_ := Aside0.mk (below_step HB.out hb_)
      clear HB
      have HB := n_
      clear n_
      have n_ := Aside0.mk (RX.out.below hb_)
      clear RX
      have RX := n_
      clear n_
      have n_ := Aside0.mk (blk_below KX.out hb_)
      clear KX
      have KX := n_
      clear n_
      clear hb_
      have RY := Aside0.mk (show RoomyAt b.bulk W5 (.agg #[.int .i64 b.f0, .slice F1 b.f1.length f1, .slice F2 b.f2.length f2, .slice F3 b.f3.length f3]) b from ⟨_, rfl, hK⟩)
      clear hM hK
      have zA0_ : (W5.alloc (.cells #[.int .i64 b.f0, .slice F1 b.f1.length f1, .slice F2 b.f2.length f2, .slice F3 b.f3.length f3] 26)).cell? ⟨ga, 0, none⟩ = some (.int .i64 a.f0) := (blk_cell (blk_alloc KA.out _) 0).trans rfl
      have zA1_ : (W5.alloc (.cells #[.int .i64 b.f0, .slice F1 b.f1.length f1, .slice F2 b.f2.length f2, .slice F3 b.f3.length f3] 26)).cell? ⟨ga, 1, none⟩ = some (.slice A1 a.f1.length c1) := (blk_cell (blk_alloc KA.out _) 1).trans rfl
      have zA2_ : (W5.alloc (.cells #[.int .i64 b.f0, .slice F1 b.f1.length f1, .slice F2 b.f2.length f2, .slice F3 b.f3.length f3] 26)).cell? ⟨ga, 2, none⟩ = some (.slice A2 a.f2.length c2) := (blk_cell (blk_alloc KA.out _) 2).trans rfl
      have zA3_ : (W5.alloc (.cells #[.int .i64 b.f0, .slice F1 b.f1.length f1, .slice F2 b.f2.length f2, .slice F3 b.f3.length f3] 26)).cell? ⟨ga, 3, none⟩ = some (.slice A3 a.f3.length c3) := (blk_cell (blk_alloc KA.out _) 3).trans rfl
      have zB0_ : (W5.alloc (.cells #[.int .i64 b.f0, .slice F1 b.f1.length f1, .slice F2 b.f2.length f2, .slice F3 b.f3.length f3] 26)).cell? ⟨gb, 0, none⟩ = some (.int .i64 b.f0) := (blk_cell (blk_alloc KB.out _) 0).trans rfl
      have zB1_ : (W5.alloc (.cells #[.int .i64 b.f0, .slice F1 b.f1.length f1, .slice F2 b.f2.length f2, .slice F3 b.f3.length f3] 26)).cell? ⟨gb, 1, none⟩ = some (.slice D1 b.f1.length d1) := (blk_cell (blk_alloc KB.out _) 1).trans rfl
      have zB2_ : (W5.alloc (.cells #[.int .i64 b.f0, .slice F1 b.f1.length f1, .slice F2 b.f2.length f2, .slice F3 b.f3.length f3] 26)).cell? ⟨gb, 2, none⟩ = some (.slice D2 b.f2.length d2) := (blk_cell (blk_alloc KB.out _) 2).trans rfl
      have zB3_ : (W5.alloc (.cells #[.int .i64 b.f0, .slice F1 b.f1.length f1, .slice F2 b.f2.length f2, .slice F3 b.f3.length f3] 26)).cell? ⟨gb, 3, none⟩ = some (.slice D3 b.f3.length d3) := (blk_cell (blk_alloc KB.out _) 3).trans rfl
      have zX0_ : (W5.alloc (.cells #[.int .i64 b.f0, .slice F1 b.f1.length f1, .slice F2 b.f2.length f2, .slice F3 b.f3.length f3] 26)).cell? ⟨gx, 0, none⟩ = some (.int .i64 a.f0) := (blk_cell (blk_alloc KX.out _) 0).trans rfl
      have zX1_ : (W5.alloc (.cells #[.int .i64 b.f0, .slice F1 b.f1.length f1, .slice F2 b.f2.length f2, .slice F3 b.f3.length f3] 26)).cell? ⟨gx, 1, none⟩ = some (.slice E1 a.f1.length e1) := (blk_cell (blk_alloc KX.out _) 1).trans rfl
      have zX2_ : (W5.alloc (.cells #[.int .i64 b.f0, .slice F1 b.f1.length f1, .slice F2 b.f2.length f2, .slice F3 b.f3.length f3] 26)).cell? ⟨gx, 2, none⟩ = some (.slice E2 a.f2.length e2) := (blk_cell (blk_alloc KX.out _) 2).trans rfl
      have zX3_ : (W5.alloc (.cells #[.int .i64 b.f0, .slice F1 b.f1.length f1, .slice F2 b.f2.length f2, .slice F3 b.f3.length f3] 26)).cell? ⟨gx, 3, none⟩ = some (.slice E3 a.f3.length e3) := (blk_cell (blk_alloc KX.out _) 3).trans rfl
      go_wp2_with fail
      clear zA0_ zA1_ zA2_ zA3_ zB0_ zB1_ zB2_ zB3_ zX0_ zX1_ zX2_ zX3_
      obtain ⟨gy, hgy_⟩ : ∃ x, x = W5.heap.size := ⟨_, rfl⟩
      obtain ⟨W6, hW6_⟩ : ∃ x, x = W5.alloc (.cells #[.int .i64 b.f0, .slice F1 b.f1.length f1, .slice F2 b.f2.length f2, .slice F3 b.f3.length f3] 26) := ⟨_, rfl⟩
      rw [← hW6_, ← hgy_]
      have KY := Aside0.mk (show W6.heap[gy]? = some (.cells #[.int .i64 b.f0, .slice F1 b.f1.length f1, .slice F2 b.f2.length f2, .slice F3 b.f3.length f3] 26 (0, 0)) by rw [hW6_, hgy_]; exact World.alloc_heap_new _ _)
      have hb_ : Below W5.heap.size W5 W6 := by rw [hW6_]; exact below_alloc (Below.refl _ _) _
      clear hW6_ hgy_
      have n_ := Aside0.mk (blk_below KA.out hb_)
      clear KA
      have KA := n_
      clear n_
      have n_ := Aside0.mk (blk_below KB.out hb_)
      clear KB
      have KB := n_
      clear n_
      have n_ := Aside0.mk (HA.out.below hb_)
      clear HA
      have HA := n_
      clear n_
      have n_ := Aside0.mk (HG.out.below hb_)
      clear HG
      have HG := n_
      clear n_
      have n_ := Aside0.mk (below_step HB.out hb_)
      clear HB
      have HB := n_
      clear n_
      have n_ := Aside0.mk (RX.out.below hb_)
      clear RX
      have RX := n_
      clear n_
      have n_ := Aside0.mk (blk_below KX.out hb_)
      clear KX
      have KX := n_
      clear n_
      have n_ := Aside0.mk (RY.out.below hb_)
      clear RY
      have RY := n_
      clear n_
      clear hb_
      refine (copy_calls a.bulk _ a W6 RX.out.isG (Nat.le_refl _) (by omega)).mono ?_
      rintro e W7 ⟨_, rfl, ⟨cs, rfl, hM⟩, hb_⟩
      have hC := (CopyOf.isG ⟨_, rfl, hM⟩ : IsG _ _ a)
      obtain ⟨G1, g1, G2, g2, G3, g3, rfl, _⟩ := kGe_open (kSp_K _ ((kSp _).K_of_M hM))
      have n_ := Aside0.mk (blk_below KA.out hb_)
      clear KA
      have KA := n_
      clear n_
      have n_ := Aside0.mk (blk_below KB.out hb_)
      clear KB
      have KB := n_
      clear n_
      have n_ := Aside0.mk (HA.out.below hb_)
      clear HA
      have HA := n_
      clear n_
      have n_ := Aside0.mk (HG.out.below hb_)
      clear HG
      have HG := n_
      clear n_
      have n_ := Aside0.mk (below_step HB.out hb_)
      clear HB
      have HB := n_
      clear n_
      have n_ := Aside0.mk (RX.out.below hb_)
      clear RX
      have RX := n_
      clear n_
      have n_ := Aside0.mk (blk_below KX.out hb_)
      clear KX
      have KX := n_
      clear n_
      have n_ := Aside0.mk (RY.out.below hb_)
      clear RY
      have RY := n_
      clear n_
      have n_ := Aside0.mk (blk_below KY.out hb_)
      clear KY
      have KY := n_
      clear n_
      clear hb_
      have IC := Aside0.mk (show IsG W7 (.agg #[.int .i64 a.f0, .slice G1 a.f1.length g1, .slice G2 a.f2.length g2, .slice G3 a.f3.length g3]) a from hC)
      clear hM hC
      go_wp2_with fail
      obtain ⟨gc, hgc_⟩ : ∃ x, x = W7.heap.size := ⟨_, rfl⟩
      obtain ⟨W8, hW8_⟩ : ∃ x, x = W7.alloc (.cells #[.int .i64 a.f0, .slice G1 a.f1.length g1, .slice G2 a.f2.length g2, .slice G3 a.f3.length g3] 26) := ⟨_, rfl⟩
      rw [← hW8_, ← hgc_]
      have KC := Aside0.mk (show W8.heap[gc]? = some (.cells #[.int .i64 a.f0, .slice G1 a.f1.length g1, .slice G2 a.f2.length g2, .slice G3 a.f3.length g3] 26 (0, 0)) by rw [hW8_, hgc_]; exact World.alloc_heap_new _ _)
      have hb_ : Below W7.heap.size W7 W8 := by rw [hW8_]; exact below_alloc (Below.refl _ _) _
      clear hW8_ hgc_
      have n_ := Aside0.mk (blk_below KA.out hb_)
      clear KA
      have KA := n_
      clear n_
      have n_ := Aside0.mk (blk_below KB.out hb_)
      clear KB
      have KB := n_
      clear n_
      have n_ := Aside0.mk (HA.out.below hb_)
      clear HA
      have HA := n_
      clear n_
      have n_ := Aside0.mk (HG.out.below hb_)
      clear HG
      have HG := n_
      clear n_
      have n_ := Aside0.mk (below_step HB.out hb_)
      clear HB
      have HB := n_
      clear n_
      have n_ := Aside0.mk (RX.out.below hb_)
      clear RX
      have RX := n_
      clear n_
      have n_ := Aside0.mk (blk_below KX.out hb_)
      clear KX
      have KX := n_
      clear n_
      have n_ := Aside0.mk (RY.out.below hb_)
      clear RY
      have RY := n_
      clear n_
      have n_ := Aside0.mk (blk_below KY.out hb_)
      clear KY
      have KY := n_
      clear n_
      have n_ := Aside0.mk (IC.out.below hb_)
      clear IC
      have IC := n_
      clear n_
      clear hb_
      obtain ⟨q, hq⟩ : ∃ q, q = eqG a b := ⟨_, rfl⟩
      have HQ := Aside0.mk hq
      clear hq
      refine start_ (n := 40) (S := (fun w' => w'.cell? ⟨ga, 0, none⟩ = some (.int .i64 a.f0) ∧ w'.cell? ⟨ga, 1, none⟩ = some (.slice A1 a.f1.length c1) ∧ w'.cell? ⟨ga, 2, none⟩ = some (.slice A2 a.f2.length c2) ∧ w'.cell? ⟨ga, 3, none⟩ = some (.slice A3 a.f3.length c3) ∧ w'.cell? ⟨gb, 0, none⟩ = some (.int .i64 b.f0) ∧ w'.cell? ⟨gb, 1, none⟩ = some (.slice D1 b.f1.length d1) ∧ w'.cell? ⟨gb, 2, none⟩ = some (.slice D2 b.f2.length d2) ∧ w'.cell? ⟨gb, 3, none⟩ = some (.slice D3 b.f3.length d3) ∧ w'.cell? ⟨gx, 0, none⟩ = some (.int .i64 a.f0) ∧ w'.cell? ⟨gx, 1, none⟩ = some (.slice E1 a.f1.length e1) ∧ w'.cell? ⟨gx, 2, none⟩ = some (.slice E2 a.f2.length e2) ∧ w'.cell? ⟨gx, 3, none⟩ = some (.slice E3 a.f3.length e3) ∧ w'.cell? ⟨gy, 0, none⟩ = some (.int .i64 b.f0) ∧ w'.cell? ⟨gy, 1, none⟩ = some (.slice F1 b.f1.length f1) ∧ w'.cell? ⟨gy, 2, none⟩ = some (.slice F2 b.f2.length f2) ∧ w'.cell? ⟨gy, 3, none⟩ = some (.slice F3 b.f3.length f3) ∧ w'.cell? ⟨gc, 0, none⟩ = some (.int .i64 a.f0) ∧ w'.cell? ⟨gc, 1, none⟩ = some (.slice G1 a.f1.length g1) ∧ w'.cell? ⟨gc, 2, none⟩ = some (.slice G2 a.f2.length g2) ∧ w'.cell? ⟨gc, 3, none⟩ = some (.slice G3 a.f3.length g3) ∧ True)) (ds := []) #[false, false, false, false, false, false, false, false, false, false, false, false, false, false, false, false, false, false, false, false, false, false, false, false, false, false, false, false, false, false, false, false, false, false, false, false, false, false, false, false] hmx rfl rfl ⟨(blk_cell (w := W8.drew) KA.out 0).trans rfl, (blk_cell (w := W8.drew) KA.out 1).trans rfl, (blk_cell (w := W8.drew) KA.out 2).trans rfl, (blk_cell (w := W8.drew) KA.out 3).trans rfl, (blk_cell (w := W8.drew) KB.out 0).trans rfl, (blk_cell (w := W8.drew) KB.out 1).trans rfl, (blk_cell (w := W8.drew) KB.out 2).trans rfl, (blk_cell (w := W8.drew) KB.out 3).trans rfl, (blk_cell (w := W8.drew) KX.out 0).trans rfl, (blk_cell (w := W8.drew) KX.out 1).trans rfl, (blk_cell (w := W8.drew) KX.out 2).trans rfl, (blk_cell (w := W8.drew) KX.out 3).trans rfl, (blk_cell (w := W8.drew) KY.out 0).trans rfl, (blk_cell (w := W8.drew) KY.out 1).trans rfl, (blk_cell (w := W8.drew) KY.out 2).trans rfl, (blk_cell (w := W8.drew) KY.out 3).trans rfl, (blk_cell (w := W8.drew) KC.out 0).trans rfl, (blk_cell (w := W8.drew) KC.out 1).trans rfl, (blk_cell (w := W8.drew) KC.out 2).trans rfl, (blk_cell (w := W8.drew) KC.out 3).trans rfl, trivial⟩ (fun hHeld0 => ?_)
      have n_ := Aside0.mk (blk_below KA.out (below_drew (Below.refl W8.heap.size W8)))
      clear KA
      have KA := n_
      clear n_
      have n_ := Aside0.mk (blk_below KB.out (below_drew (Below.refl W8.heap.size W8)))
      clear KB
      have KB := n_
      clear n_
      have n_ := Aside0.mk (HA.out.below (below_drew (Below.refl W8.heap.size W8)))
      clear HA
      have HA := n_
      clear n_
      have n_ := Aside0.mk (HG.out.below (below_drew (Below.refl W8.heap.size W8)))
      clear HG
      have HG := n_
      clear n_
      have n_ := Aside0.mk (below_step HB.out (below_drew (Below.refl W8.heap.size W8)))
      clear HB
      have HB := n_
      clear n_
      have n_ := Aside0.mk (RX.out.below (below_drew (Below.refl W8.heap.size W8)))
      clear RX
      have RX := n_
      clear n_
      have n_ := Aside0.mk (blk_below KX.out (below_drew (Below.refl W8.heap.size W8)))
      clear KX
      have KX := n_
      clear n_
      have n_ := Aside0.mk (RY.out.below (below_drew (Below.refl W8.heap.size W8)))
      clear RY
      have RY := n_
      clear n_
      have n_ := Aside0.mk (blk_below KY.out (below_drew (Below.refl W8.heap.size W8)))
      clear KY
      have KY := n_
      clear n_
      have n_ := Aside0.mk (IC.out.below (below_drew (Below.refl W8.heap.size W8)))
      clear IC
      have IC := n_
      clear n_
      have n_ := Aside0.mk (blk_below KC.out (below_drew (Below.refl W8.heap.size W8)))
      clear KC
      have KC := n_
      clear n_
      generalize W8.drew = W9 at KA KB HA HG HB RX KX RY KY IC KC hHeld0 ⊢
      refine one_ (i := 0) (N := some 23) #[true, false, false, false, false, false, false, false, false, false, false, false, false, false, false, false, false, false, false, false, false, false, false, false, false, false, false, false, false, false, false, false, false, false, false, false, false, false, false, false] rfl rfl (by kernel_rfl) (by decide) (fun K hK => ?_)
      refine goes_ Try.func9 (by kernel_rfl) rfl #[] (by rfl) rfl rfl (by (try simp only [List.map_toArray, List.map_cons, List.map_nil]); first | done | rfl) ?_
      refine (alive_calls W9).mono ?_
      rintro e W10 ⟨rfl, hb_⟩
      have n_ := Aside0.mk (blk_below KA.out hb_)
      clear KA
      have KA := n_
      clear n_
      have n_ := Aside0.mk (blk_below KB.out hb_)
      clear KB
      have KB := n_
      clear n_
      have n_ := Aside0.mk (HA.out.below hb_)
      clear HA
      have HA := n_
      clear n_
      have n_ := Aside0.mk (HG.out.below hb_)
      clear HG
      have HG := n_
      clear n_
      have n_ := Aside0.mk (below_step HB.out hb_)
      clear HB
      have HB := n_
      clear n_
      have n_ := Aside0.mk (RX.out.below hb_)
      clear RX
      have RX := n_
      clear n_
      have n_ := Aside0.mk (blk_below KX.out hb_)
      clear KX
      have KX := n_
      clear n_
      have n_ := Aside0.mk (RY.out.below hb_)
      clear RY
      have RY := n_
      clear n_
      have n_ := Aside0.mk (blk_below KY.out hb_)
      clear KY
      have KY := n_
      clear n_
      have n_ := Aside0.mk (IC.out.below hb_)
      clear IC
      have IC := n_
      clear n_
      have n_ := Aside0.mk (blk_below KC.out hb_)
      clear KC
      have KC := n_
      clear n_
      clear hb_
      refine ⟨_, rfl, hK.out _ _ ⟨(blk_cell KA.out 0).trans rfl, (blk_cell KA.out 1).trans rfl, (blk_cell KA.out 2).trans rfl, (blk_cell KA.out 3).trans rfl, (blk_cell KB.out 0).trans rfl, (blk_cell KB.out 1).trans rfl, (blk_cell KB.out 2).trans rfl, (blk_cell KB.out 3).trans rfl, (blk_cell KX.out 0).trans rfl, (blk_cell KX.out 1).trans rfl, (blk_cell KX.out 2).trans rfl, (blk_cell KX.out 3).trans rfl, (blk_cell KY.out 0).trans rfl, (blk_cell KY.out 1).trans rfl, (blk_cell KY.out 2).trans rfl, (blk_cell KY.out 3).trans rfl, (blk_cell KC.out 0).trans rfl, (blk_cell KC.out 1).trans rfl, (blk_cell KC.out 2).trans rfl, (blk_cell KC.out 3).trans rfl, trivial⟩ (fun hHeld1 => ?_)⟩
      clear hK K hHeld0
      (refine norm_ (a' := ?_) ?_ ?_; rotate_left; focus (show Act.put _ (some 23) _ = _; simp only [Act.put, List.setIfInBounds_toArray, List.set_cons_zero, List.set_cons_succ]; rfl))
      (refine pure_ (i := 1) (N := some 24) (v := ?_) (a' := ?_) #[true, true, false, false, false, false, false, false, false, false, false, false, false, false, false, false, false, false, false, false, false, false, false, false, false, false, false, false, false, false, false, false, false, false, false, false, false, false, false, false] rfl rfl (by kernel_rfl) (fun _ _ _ h => h) (Or.inl ⟨by rfl, ?_⟩) ?_ ?_; rotate_left; (focus (intro w'_; go_simp; with_reducible rfl)); rotate_left; (focus (simp only [Act.put, List.setIfInBounds_toArray, List.set_cons_zero, List.set_cons_succ]; rfl)))
      (refine take_ (i := 2) (N := some 25) (v := ?_) (a' := ?_) #[true, true, true, false, false, false, false, false, false, false, false, false, false, false, false, false, false, false, false, false, false, false, false, false, false, false, false, false, false, false, false, false, false, false, false, false, false, false, false, false] rfl rfl (by kernel_rfl) (fun _ _ _ h => h) (Or.inl ⟨by rfl, ?_⟩) hHeld1 ?_ ?_; rotate_left; (focus (intro w'_ hs_; (repeat obtain ⟨_, hs_⟩ := hs_); go_simp; with_reducible rfl)); rotate_left; (focus (simp only [Act.put, List.setIfInBounds_toArray, List.set_cons_zero, List.set_cons_succ]; rfl)))
      (refine take_ (i := 3) (N := some 26) (v := ?_) (a' := ?_) #[true, true, true, true, false, false, false, false, false, false, false, false, false, false, false, false, false, false, false, false, false, false, false, false, false, false, false, false, false, false, false, false, false, false, false, false, false, false, false, false] rfl rfl (by kernel_rfl) (fun _ _ _ h => h) (Or.inl ⟨by rfl, ?_⟩) hHeld1 ?_ ?_; rotate_left; (focus (intro w'_ hs_; (repeat obtain ⟨_, hs_⟩ := hs_); go_simp; with_reducible rfl)); rotate_left; (focus (simp only [Act.put, List.setIfInBounds_toArray, List.set_cons_zero, List.set_cons_succ]; rfl)))
      (refine take_ (i := 5) (N := some 28) (v := ?_) (a' := ?_) #[true, true, true, true, false, true, false, false, false, false, false, false, false, false, false, false, false, false, false, false, false, false, false, false, false, false, false, false, false, false, false, false, false, false, false, false, false, false, false, false] rfl rfl (by kernel_rfl) (fun _ _ _ h => h) (Or.inl ⟨by rfl, ?_⟩) hHeld1 ?_ ?_; rotate_left; (focus (intro w'_ hs_; (repeat obtain ⟨_, hs_⟩ := hs_); go_simp; with_reducible rfl)); rotate_left; (focus (simp only [Act.put, List.setIfInBounds_toArray, List.set_cons_zero, List.set_cons_succ]; rfl)))
      (refine take_ (i := 6) (N := some 29) (v := ?_) (a' := ?_) #[true, true, true, true, false, true, true, false, false, false, false, false, false, false, false, false, false, false, false, false, false, false, false, false, false, false, false, false, false, false, false, false, false, false, false, false, false, false, false, false] rfl rfl (by kernel_rfl) (fun _ _ _ h => h) (Or.inl ⟨by rfl, ?_⟩) hHeld1 ?_ ?_; rotate_left; (focus (intro w'_ hs_; (repeat obtain ⟨_, hs_⟩ := hs_); go_simp; with_reducible rfl)); rotate_left; (focus (simp only [Act.put, List.setIfInBounds_toArray, List.set_cons_zero, List.set_cons_succ]; rfl)))
      refine one_ (i := 4) (N := some 27) #[true, true, true, true, true, true, true, false, false, false, false, false, false, false, false, false, false, false, false, false, false, false, false, false, false, false, false, false, false, false, false, false, false, false, false, false, false, false, false, false] rfl rfl (by kernel_rfl) (by decide) (fun K hK => ?_)
      refine goes_ Try.func25 (by kernel_rfl) rfl #[.agg #[.int .i64 a.f0, .slice E1 a.f1.length e1, .slice E2 a.f2.length e2, .slice E3 a.f3.length e3], .agg #[.int .i64 b.f0, .slice F1 b.f1.length f1, .slice F2 b.f2.length f2, .slice F3 b.f3.length f3]] (by rfl) rfl rfl (by (try simp only [List.map_toArray, List.map_cons, List.map_nil]); first | done | rfl) ?_
      refine (equal_calls a.bulk _ _ a b W10 RX.out.isG RY.out.isG (Nat.le_refl _) (by omega) (by omega)).mono ?_
      rintro e W11 ⟨rfl, hb_⟩
      rw [← HQ.out]
      have n_ := Aside0.mk (blk_below KA.out hb_)
      clear KA
      have KA := n_
      clear n_
      have n_ := Aside0.mk (blk_below KB.out hb_)
      clear KB
      have KB := n_
      clear n_
      have n_ := Aside0.mk (HA.out.below hb_)
      clear HA
      have HA := n_
      clear n_
      have n_ := Aside0.mk (HG.out.below hb_)
      clear HG
      have HG := n_
      clear n_
      have n_ := Aside0.mk (below_step HB.out hb_)
      clear HB
      have HB := n_
      clear n_
      have n_ := Aside0.mk (RX.out.below hb_)
      clear RX
      have RX := n_
      clear n_
      have n_ := Aside0.mk (blk_below KX.out hb_)
      clear KX
      have KX := n_
      clear n_
      have n_ := Aside0.mk (RY.out.below hb_)
      clear RY
      have RY := n_
      clear n_
      have n_ := Aside0.mk (blk_below KY.out hb_)
      clear KY
      have KY := n_
      clear n_
      have n_ := Aside0.mk (IC.out.below hb_)
      clear IC
      have IC := n_
      clear n_
      have n_ := Aside0.mk (blk_below KC.out hb_)
      clear KC
      have KC := n_
      clear n_
      clear hb_
      refine ⟨_, rfl, hK.out _ _ ⟨(blk_cell KA.out 0).trans rfl, (blk_cell KA.out 1).trans rfl, (blk_cell KA.out 2).trans rfl, (blk_cell KA.out 3).trans rfl, (blk_cell KB.out 0).trans rfl, (blk_cell KB.out 1).trans rfl, (blk_cell KB.out 2).trans rfl, (blk_cell KB.out 3).trans rfl, (blk_cell KX.out 0).trans rfl, (blk_cell KX.out 1).trans rfl, (blk_cell KX.out 2).trans rfl, (blk_cell KX.out 3).trans rfl, (blk_cell KY.out 0).trans rfl, (blk_cell KY.out 1).trans rfl, (blk_cell KY.out 2).trans rfl, (blk_cell KY.out 3).trans rfl, (blk_cell KC.out 0).trans rfl, (blk_cell KC.out 1).trans rfl, (blk_cell KC.out 2).trans rfl, (blk_cell KC.out 3).trans rfl, trivial⟩ (fun hHeld5 => ?_)⟩
      clear hK K hHeld1
      (refine norm_ (a' := ?_) ?_ ?_; rotate_left; focus (show Act.put _ (some 27) _ = _; simp only [Act.put, List.setIfInBounds_toArray, List.set_cons_zero, List.set_cons_succ]; rfl))
      refine one_ (i := 7) (N := some 30) #[true, true, true, true, true, true, true, true, false, false, false, false, false, false, false, false, false, false, false, false, false, false, false, false, false, false, false, false, false, false, false, false, false, false, false, false, false, false, false, false] rfl rfl (by kernel_rfl) (by decide) (fun K hK => ?_)
      refine goes_ Try.func15 (by kernel_rfl) rfl #[.agg #[.int .i64 a.f0, .slice A1 a.f1.length c1, .slice A2 a.f2.length c2, .slice A3 a.f3.length c3], .agg #[.int .i64 b.f0, .slice D1 b.f1.length d1, .slice D2 b.f2.length d2, .slice D3 b.f3.length d3]] (by rfl) rfl rfl (by (try simp only [List.map_toArray, List.map_cons, List.map_nil]); first | done | rfl) ?_
      refine (requal_calls a.bulk _ _ a b W11 HA.out HG.out (Nat.le_refl _) (by omega) (by omega)).mono ?_
      rintro e W12 ⟨rfl, hb_⟩
      rw [← HQ.out]
      have n_ := Aside0.mk (blk_below KA.out hb_)
      clear KA
      have KA := n_
      clear n_
      have n_ := Aside0.mk (blk_below KB.out hb_)
      clear KB
      have KB := n_
      clear n_
      have n_ := Aside0.mk (HA.out.below hb_)
      clear HA
      have HA := n_
      clear n_
      have n_ := Aside0.mk (HG.out.below hb_)
      clear HG
      have HG := n_
      clear n_
      have n_ := Aside0.mk (below_step HB.out hb_)
      clear HB
      have HB := n_
      clear n_
      have n_ := Aside0.mk (RX.out.below hb_)
      clear RX
      have RX := n_
      clear n_
      have n_ := Aside0.mk (blk_below KX.out hb_)
      clear KX
      have KX := n_
      clear n_
      have n_ := Aside0.mk (RY.out.below hb_)
      clear RY
      have RY := n_
      clear n_
      have n_ := Aside0.mk (blk_below KY.out hb_)
      clear KY
      have KY := n_
      clear n_
      have n_ := Aside0.mk (IC.out.below hb_)
      clear IC
      have IC := n_
      clear n_
      have n_ := Aside0.mk (blk_below KC.out hb_)
      clear KC
      have KC := n_
      clear n_
      clear hb_
      refine ⟨_, rfl, hK.out _ _ ⟨(blk_cell KA.out 0).trans rfl, (blk_cell KA.out 1).trans rfl, (blk_cell KA.out 2).trans rfl, (blk_cell KA.out 3).trans rfl, (blk_cell KB.out 0).trans rfl, (blk_cell KB.out 1).trans rfl, (blk_cell KB.out 2).trans rfl, (blk_cell KB.out 3).trans rfl, (blk_cell KX.out 0).trans rfl, (blk_cell KX.out 1).trans rfl, (blk_cell KX.out 2).trans rfl, (blk_cell KX.out 3).trans rfl, (blk_cell KY.out 0).trans rfl, (blk_cell KY.out 1).trans rfl, (blk_cell KY.out 2).trans rfl, (blk_cell KY.out 3).trans rfl, (blk_cell KC.out 0).trans rfl, (blk_cell KC.out 1).trans rfl, (blk_cell KC.out 2).trans rfl, (blk_cell KC.out 3).trans rfl, trivial⟩ (fun hHeld8 => ?_)⟩
      clear hK K hHeld5
      (refine norm_ (a' := ?_) ?_ ?_; rotate_left; focus (show Act.put _ (some 30) _ = _; simp only [Act.put, List.setIfInBounds_toArray, List.set_cons_zero, List.set_cons_succ]; rfl))
      (refine pure_ (i := 8) (N := some 31) (v := ?_) (a' := ?_) #[true, true, true, true, true, true, true, true, true, false, false, false, false, false, false, false, false, false, false, false, false, false, false, false, false, false, false, false, false, false, false, false, false, false, false, false, false, false, false, false] rfl rfl (by kernel_rfl) (fun _ _ _ h => h) (Or.inl ⟨by rfl, ?_⟩) ?_ ?_; rotate_left; (focus (intro w'_; go_simp; with_reducible rfl)); rotate_left; (focus (simp only [Act.put, List.setIfInBounds_toArray, List.set_cons_zero, List.set_cons_succ]; rfl)))
      (refine pure_ (i := 9) (N := some 32) (v := ?_) (a' := ?_) #[true, true, true, true, true, true, true, true, true, true, false, false, false, false, false, false, false, false, false, false, false, false, false, false, false, false, false, false, false, false, false, false, false, false, false, false, false, false, false, false] rfl rfl (by kernel_rfl) (fun _ _ _ h => h) (Or.inl ⟨by rfl, ?_⟩) ?_ ?_; rotate_left; (focus (intro w'_; go_simp; with_reducible rfl)); rotate_left; (focus (simp only [Act.put, List.setIfInBounds_toArray, List.set_cons_zero, List.set_cons_succ]; rfl)))
      (refine pure_ (i := 10) (N := some 33) (v := ?_) (a' := ?_) #[true, true, true, true, true, true, true, true, true, true, true, false, false, false, false, false, false, false, false, false, false, false, false, false, false, false, false, false, false, false, false, false, false, false, false, false, false, false, false, false] rfl rfl (by kernel_rfl) (fun _ _ _ h => h) (Or.inl ⟨by rfl, ?_⟩) ?_ ?_; rotate_left; (focus (intro w'_; go_simp; with_reducible rfl)); rotate_left; (focus (simp only [Act.put, List.setIfInBounds_toArray, List.set_cons_zero, List.set_cons_succ]; rfl)))
      (refine take_ (i := 11) (N := some 34) (v := ?_) (a' := ?_) #[true, true, true, true, true, true, true, true, true, true, true, true, false, false, false, false, false, false, false, false, false, false, false, false, false, false, false, false, false, false, false, false, false, false, false, false, false, false, false, false] rfl rfl (by kernel_rfl) (fun _ _ _ h => h) (Or.inl ⟨by rfl, ?_⟩) hHeld8 ?_ ?_; rotate_left; (focus (intro w'_ hs_; (repeat obtain ⟨_, hs_⟩ := hs_); go_simp; with_reducible rfl)); rotate_left; (focus (simp only [Act.put, List.setIfInBounds_toArray, List.set_cons_zero, List.set_cons_succ]; rfl)))
      (refine take_ (i := 12) (N := some 35) (v := ?_) (a' := ?_) #[true, true, true, true, true, true, true, true, true, true, true, true, true, false, false, false, false, false, false, false, false, false, false, false, false, false, false, false, false, false, false, false, false, false, false, false, false, false, false, false] rfl rfl (by kernel_rfl) (fun _ _ _ h => h) (Or.inl ⟨by rfl, ?_⟩) hHeld8 ?_ ?_; rotate_left; (focus (intro w'_ hs_; (repeat obtain ⟨_, hs_⟩ := hs_); go_simp; with_reducible rfl)); rotate_left; (focus (simp only [Act.put, List.setIfInBounds_toArray, List.set_cons_zero, List.set_cons_succ]; rfl)))
      (refine take_ (i := 14) (N := some 37) (v := ?_) (a' := ?_) #[true, true, true, true, true, true, true, true, true, true, true, true, true, false, true, false, false, false, false, false, false, false, false, false, false, false, false, false, false, false, false, false, false, false, false, false, false, false, false, false] rfl rfl (by kernel_rfl) (fun _ _ _ h => h) (Or.inl ⟨by rfl, ?_⟩) hHeld8 ?_ ?_; rotate_left; (focus (intro w'_ hs_; (repeat obtain ⟨_, hs_⟩ := hs_); go_simp; with_reducible rfl)); rotate_left; (focus (simp only [Act.put, List.setIfInBounds_toArray, List.set_cons_zero, List.set_cons_succ]; rfl)))
      (refine take_ (i := 15) (N := some 38) (v := ?_) (a' := ?_) #[true, true, true, true, true, true, true, true, true, true, true, true, true, false, true, true, false, false, false, false, false, false, false, false, false, false, false, false, false, false, false, false, false, false, false, false, false, false, false, false] rfl rfl (by kernel_rfl) (fun _ _ _ h => h) (Or.inl ⟨by rfl, ?_⟩) hHeld8 ?_ ?_; rotate_left; (focus (intro w'_ hs_; (repeat obtain ⟨_, hs_⟩ := hs_); go_simp; with_reducible rfl)); rotate_left; (focus (simp only [Act.put, List.setIfInBounds_toArray, List.set_cons_zero, List.set_cons_succ]; rfl)))
      refine one_ (i := 13) (N := some 36) #[true, true, true, true, true, true, true, true, true, true, true, true, true, true, true, true, false, false, false, false, false, false, false, false, false, false, false, false, false, false, false, false, false, false, false, false, false, false, false, false] rfl rfl (by kernel_rfl) (by decide) (fun K hK => ?_)
      refine goes_ Try.func25 (by kernel_rfl) rfl #[.agg #[.int .i64 b.f0, .slice F1 b.f1.length f1, .slice F2 b.f2.length f2, .slice F3 b.f3.length f3], .agg #[.int .i64 a.f0, .slice E1 a.f1.length e1, .slice E2 a.f2.length e2, .slice E3 a.f3.length e3]] (by rfl) rfl rfl (by (try simp only [List.map_toArray, List.map_cons, List.map_nil]); first | done | rfl) ?_
      refine (equal_calls b.bulk _ _ b a W12 RY.out.isG RX.out.isG (Nat.le_refl _) (by omega) (by omega)).mono ?_
      rintro e W13 ⟨rfl, hb_⟩
      rw [eqG_comm b a, ← HQ.out]
      have n_ := Aside0.mk (blk_below KA.out hb_)
      clear KA
      have KA := n_
      clear n_
      have n_ := Aside0.mk (blk_below KB.out hb_)
      clear KB
      have KB := n_
      clear n_
      have n_ := Aside0.mk (HA.out.below hb_)
      clear HA
      have HA := n_
      clear n_
      have n_ := Aside0.mk (HG.out.below hb_)
      clear HG
      have HG := n_
      clear n_
      have n_ := Aside0.mk (below_step HB.out hb_)
      clear HB
      have HB := n_
      clear n_
      have n_ := Aside0.mk (RX.out.below hb_)
      clear RX
      have RX := n_
      clear n_
      have n_ := Aside0.mk (blk_below KX.out hb_)
      clear KX
      have KX := n_
      clear n_
      have n_ := Aside0.mk (RY.out.below hb_)
      clear RY
      have RY := n_
      clear n_
      have n_ := Aside0.mk (blk_below KY.out hb_)
      clear KY
      have KY := n_
      clear n_
      have n_ := Aside0.mk (IC.out.below hb_)
      clear IC
      have IC := n_
      clear n_
      have n_ := Aside0.mk (blk_below KC.out hb_)
      clear KC
      have KC := n_
      clear n_
      clear hb_
      refine ⟨_, rfl, hK.out _ _ ⟨(blk_cell KA.out 0).trans rfl, (blk_cell KA.out 1).trans rfl, (blk_cell KA.out 2).trans rfl, (blk_cell KA.out 3).trans rfl, (blk_cell KB.out 0).trans rfl, (blk_cell KB.out 1).trans rfl, (blk_cell KB.out 2).trans rfl, (blk_cell KB.out 3).trans rfl, (blk_cell KX.out 0).trans rfl, (blk_cell KX.out 1).trans rfl, (blk_cell KX.out 2).trans rfl, (blk_cell KX.out 3).trans rfl, (blk_cell KY.out 0).trans rfl, (blk_cell KY.out 1).trans rfl, (blk_cell KY.out 2).trans rfl, (blk_cell KY.out 3).trans rfl, (blk_cell KC.out 0).trans rfl, (blk_cell KC.out 1).trans rfl, (blk_cell KC.out 2).trans rfl, (blk_cell KC.out 3).trans rfl, trivial⟩ (fun hHeld14 => ?_)⟩
      clear hK K hHeld8
      (refine norm_ (a' := ?_) ?_ ?_; rotate_left; focus (show Act.put _ (some 36) _ = _; simp only [Act.put, List.setIfInBounds_toArray, List.set_cons_zero, List.set_cons_succ]; rfl))
      refine one_ (i := 16) (N := some 39) #[true, true, true, true, true, true, true, true, true, true, true, true, true, true, true, true, true, false, false, false, false, false, false, false, false, false, false, false, false, false, false, false, false, false, false, false, false, false, false, false] rfl rfl (by kernel_rfl) (by decide) (fun K hK => ?_)
      refine goes_ Try.func15 (by kernel_rfl) rfl #[.agg #[.int .i64 a.f0, .slice A1 a.f1.length c1, .slice A2 a.f2.length c2, .slice A3 a.f3.length c3], .agg #[.int .i64 b.f0, .slice D1 b.f1.length d1, .slice D2 b.f2.length d2, .slice D3 b.f3.length d3]] (by rfl) rfl rfl (by (try simp only [List.map_toArray, List.map_cons, List.map_nil]); first | done | rfl) ?_
      refine (requal_calls a.bulk _ _ a b W13 HA.out HG.out (Nat.le_refl _) (by omega) (by omega)).mono ?_
      rintro e W14 ⟨rfl, hb_⟩
      rw [← HQ.out]
      have n_ := Aside0.mk (blk_below KA.out hb_)
      clear KA
      have KA := n_
      clear n_
      have n_ := Aside0.mk (blk_below KB.out hb_)
      clear KB
      have KB := n_
      clear n_
      have n_ := Aside0.mk (HA.out.below hb_)
      clear HA
      have HA := n_
      clear n_
      have n_ := Aside0.mk (HG.out.below hb_)
      clear HG
      have HG := n_
      clear n_
      have n_ := Aside0.mk (below_step HB.out hb_)
      clear HB
      have HB := n_
      clear n_
      have n_ := Aside0.mk (RX.out.below hb_)
      clear RX
      have RX := n_
      clear n_
      have n_ := Aside0.mk (blk_below KX.out hb_)
      clear KX
      have KX := n_
      clear n_
      have n_ := Aside0.mk (RY.out.below hb_)
      clear RY
      have RY := n_
      clear n_
      have n_ := Aside0.mk (blk_below KY.out hb_)
      clear KY
      have KY := n_
      clear n_
      have n_ := Aside0.mk (IC.out.below hb_)
      clear IC
      have IC := n_
      clear n_
      have n_ := Aside0.mk (blk_below KC.out hb_)
      clear KC
      have KC := n_
      clear n_
      clear hb_
      refine ⟨_, rfl, hK.out _ _ ⟨(blk_cell KA.out 0).trans rfl, (blk_cell KA.out 1).trans rfl, (blk_cell KA.out 2).trans rfl, (blk_cell KA.out 3).trans rfl, (blk_cell KB.out 0).trans rfl, (blk_cell KB.out 1).trans rfl, (blk_cell KB.out 2).trans rfl, (blk_cell KB.out 3).trans rfl, (blk_cell KX.out 0).trans rfl, (blk_cell KX.out 1).trans rfl, (blk_cell KX.out 2).trans rfl, (blk_cell KX.out 3).trans rfl, (blk_cell KY.out 0).trans rfl, (blk_cell KY.out 1).trans rfl, (blk_cell KY.out 2).trans rfl, (blk_cell KY.out 3).trans rfl, (blk_cell KC.out 0).trans rfl, (blk_cell KC.out 1).trans rfl, (blk_cell KC.out 2).trans rfl, (blk_cell KC.out 3).trans rfl, trivial⟩ (fun hHeld17 => ?_)⟩
      clear hK K hHeld14
      (refine norm_ (a' := ?_) ?_ ?_; rotate_left; focus (show Act.put _ (some 39) _ = _; simp only [Act.put, List.setIfInBounds_toArray, List.set_cons_zero, List.set_cons_succ]; rfl))
      (refine pure_ (i := 17) (N := some 40) (v := ?_) (a' := ?_) #[true, true, true, true, true, true, true, true, true, true, true, true, true, true, true, true, true, true, false, false, false, false, false, false, false, false, false, false, false, false, false, false, false, false, false, false, false, false, false, false] rfl rfl (by kernel_rfl) (fun _ _ _ h => h) (Or.inl ⟨by rfl, ?_⟩) ?_ ?_; rotate_left; (focus (intro w'_; go_simp; with_reducible rfl)); rotate_left; (focus (simp only [Act.put, List.setIfInBounds_toArray, List.set_cons_zero, List.set_cons_succ]; rfl)))
      (refine pure_ (i := 18) (N := some 41) (v := ?_) (a' := ?_) #[true, true, true, true, true, true, true, true, true, true, true, true, true, true, true, true, true, true, true, false, false, false, false, false, false, false, false, false, false, false, false, false, false, false, false, false, false, false, false, false] rfl rfl (by kernel_rfl) (fun _ _ _ h => h) (Or.inl ⟨by rfl, ?_⟩) ?_ ?_; rotate_left; (focus (intro w'_; go_simp; with_reducible rfl)); rotate_left; (focus (simp only [Act.put, List.setIfInBounds_toArray, List.set_cons_zero, List.set_cons_succ]; rfl)))
      (refine pure_ (i := 19) (N := some 42) (v := ?_) (a' := ?_) #[true, true, true, true, true, true, true, true, true, true, true, true, true, true, true, true, true, true, true, true, false, false, false, false, false, false, false, false, false, false, false, false, false, false, false, false, false, false, false, false] rfl rfl (by kernel_rfl) (fun _ _ _ h => h) (Or.inl ⟨by rfl, ?_⟩) ?_ ?_; rotate_left; (focus (intro w'_; go_simp; with_reducible rfl)); rotate_left; (focus (simp only [Act.put, List.setIfInBounds_toArray, List.set_cons_zero, List.set_cons_succ]; rfl)))
      (refine take_ (i := 20) (N := some 43) (v := ?_) (a' := ?_) #[true, true, true, true, true, true, true, true, true, true, true, true, true, true, true, true, true, true, true, true, true, false, false, false, false, false, false, false, false, false, false, false, false, false, false, false, false, false, false, false] rfl rfl (by kernel_rfl) (fun _ _ _ h => h) (Or.inl ⟨by rfl, ?_⟩) hHeld17 ?_ ?_; rotate_left; (focus (intro w'_ hs_; (repeat obtain ⟨_, hs_⟩ := hs_); go_simp; with_reducible rfl)); rotate_left; (focus (simp only [Act.put, List.setIfInBounds_toArray, List.set_cons_zero, List.set_cons_succ]; rfl)))
      (refine take_ (i := 21) (N := some 44) (v := ?_) (a' := ?_) #[true, true, true, true, true, true, true, true, true, true, true, true, true, true, true, true, true, true, true, true, true, true, false, false, false, false, false, false, false, false, false, false, false, false, false, false, false, false, false, false] rfl rfl (by kernel_rfl) (fun _ _ _ h => h) (Or.inl ⟨by rfl, ?_⟩) hHeld17 ?_ ?_; rotate_left; (focus (intro w'_ hs_; (repeat obtain ⟨_, hs_⟩ := hs_); go_simp; with_reducible rfl)); rotate_left; (focus (simp only [Act.put, List.setIfInBounds_toArray, List.set_cons_zero, List.set_cons_succ]; rfl)))
      refine one_ (i := 22) (N := some 45) #[true, true, true, true, true, true, true, true, true, true, true, true, true, true, true, true, true, true, true, true, true, true, true, false, false, false, false, false, false, false, false, false, false, false, false, false, false, false, false, false] rfl rfl (by kernel_rfl) (by decide) (fun K hK => ?_)
      refine goes_ Try.func25 (by kernel_rfl) rfl #[.agg #[.int .i64 a.f0, .slice E1 a.f1.length e1, .slice E2 a.f2.length e2, .slice E3 a.f3.length e3], .agg #[.int .i64 a.f0, .slice G1 a.f1.length g1, .slice G2 a.f2.length g2, .slice G3 a.f3.length g3]] (by rfl) rfl rfl (by (try simp only [List.map_toArray, List.map_cons, List.map_nil]); first | done | rfl) ?_
      refine (equal_calls a.bulk _ _ a a W14 RX.out.isG IC.out (Nat.le_refl _) (by omega) (by omega)).mono ?_
      rintro e W15 ⟨rfl, hb_⟩
      rw [eqG_true rfl]
      have n_ := Aside0.mk (blk_below KA.out hb_)
      clear KA
      have KA := n_
      clear n_
      have n_ := Aside0.mk (blk_below KB.out hb_)
      clear KB
      have KB := n_
      clear n_
      have n_ := Aside0.mk (HA.out.below hb_)
      clear HA
      have HA := n_
      clear n_
      have n_ := Aside0.mk (HG.out.below hb_)
      clear HG
      have HG := n_
      clear n_
      have n_ := Aside0.mk (below_step HB.out hb_)
      clear HB
      have HB := n_
      clear n_
      have n_ := Aside0.mk (RX.out.below hb_)
      clear RX
      have RX := n_
      clear n_
      have n_ := Aside0.mk (blk_below KX.out hb_)
      clear KX
      have KX := n_
      clear n_
      have n_ := Aside0.mk (RY.out.below hb_)
      clear RY
      have RY := n_
      clear n_
      have n_ := Aside0.mk (blk_below KY.out hb_)
      clear KY
      have KY := n_
      clear n_
      have n_ := Aside0.mk (IC.out.below hb_)
      clear IC
      have IC := n_
      clear n_
      have n_ := Aside0.mk (blk_below KC.out hb_)
      clear KC
      have KC := n_
      clear n_
      clear hb_
      refine ⟨_, rfl, hK.out _ _ ⟨(blk_cell KA.out 0).trans rfl, (blk_cell KA.out 1).trans rfl, (blk_cell KA.out 2).trans rfl, (blk_cell KA.out 3).trans rfl, (blk_cell KB.out 0).trans rfl, (blk_cell KB.out 1).trans rfl, (blk_cell KB.out 2).trans rfl, (blk_cell KB.out 3).trans rfl, (blk_cell KX.out 0).trans rfl, (blk_cell KX.out 1).trans rfl, (blk_cell KX.out 2).trans rfl, (blk_cell KX.out 3).trans rfl, (blk_cell KY.out 0).trans rfl, (blk_cell KY.out 1).trans rfl, (blk_cell KY.out 2).trans rfl, (blk_cell KY.out 3).trans rfl, (blk_cell KC.out 0).trans rfl, (blk_cell KC.out 1).trans rfl, (blk_cell KC.out 2).trans rfl, (blk_cell KC.out 3).trans rfl, trivial⟩ (fun hHeld23 => ?_)⟩
      clear hK K hHeld17
      (refine norm_ (a' := ?_) ?_ ?_; rotate_left; focus (show Act.put _ (some 45) _ = _; simp only [Act.put, List.setIfInBounds_toArray, List.set_cons_zero, List.set_cons_succ]; rfl))
      (refine pure_ (i := 23) (N := some 46) (v := ?_) (a' := ?_) #[true, true, true, true, true, true, true, true, true, true, true, true, true, true, true, true, true, true, true, true, true, true, true, true, false, false, false, false, false, false, false, false, false, false, false, false, false, false, false, false] rfl rfl (by kernel_rfl) (fun _ _ _ h => h) (Or.inl ⟨by rfl, ?_⟩) ?_ ?_; rotate_left; (focus (intro w'_; go_simp; with_reducible rfl)); rotate_left; (focus (simp only [Act.put, List.setIfInBounds_toArray, List.set_cons_zero, List.set_cons_succ]; rfl)))
      (refine pure_ (i := 24) (N := some 47) (v := ?_) (a' := ?_) #[true, true, true, true, true, true, true, true, true, true, true, true, true, true, true, true, true, true, true, true, true, true, true, true, true, false, false, false, false, false, false, false, false, false, false, false, false, false, false, false] rfl rfl (by kernel_rfl) (fun _ _ _ h => h) (Or.inl ⟨by rfl, ?_⟩) ?_ ?_; rotate_left; (focus (intro w'_; go_simp; with_reducible rfl)); rotate_left; (focus (simp only [Act.put, List.setIfInBounds_toArray, List.set_cons_zero, List.set_cons_succ]; rfl)))
      (refine take_ (i := 25) (N := some 48) (v := ?_) (a' := ?_) #[true, true, true, true, true, true, true, true, true, true, true, true, true, true, true, true, true, true, true, true, true, true, true, true, true, true, false, false, false, false, false, false, false, false, false, false, false, false, false, false] rfl rfl (by kernel_rfl) (fun _ _ _ h => h) (Or.inl ⟨by rfl, ?_⟩) hHeld23 ?_ ?_; rotate_left; (focus (intro w'_ hs_; (repeat obtain ⟨_, hs_⟩ := hs_); go_simp; with_reducible rfl)); rotate_left; (focus (simp only [Act.put, List.setIfInBounds_toArray, List.set_cons_zero, List.set_cons_succ]; rfl)))
      (refine take_ (i := 26) (N := some 49) (v := ?_) (a' := ?_) #[true, true, true, true, true, true, true, true, true, true, true, true, true, true, true, true, true, true, true, true, true, true, true, true, true, true, true, false, false, false, false, false, false, false, false, false, false, false, false, false] rfl rfl (by kernel_rfl) (fun _ _ _ h => h) (Or.inl ⟨by rfl, ?_⟩) hHeld23 ?_ ?_; rotate_left; (focus (intro w'_ hs_; (repeat obtain ⟨_, hs_⟩ := hs_); go_simp; with_reducible rfl)); rotate_left; (focus (simp only [Act.put, List.setIfInBounds_toArray, List.set_cons_zero, List.set_cons_succ]; rfl)))
      refine one_ (i := 27) (N := some 50) #[true, true, true, true, true, true, true, true, true, true, true, true, true, true, true, true, true, true, true, true, true, true, true, true, true, true, true, true, false, false, false, false, false, false, false, false, false, false, false, false] rfl rfl (by kernel_rfl) (by decide) (fun K hK => ?_)
      refine goes_ Try.func15 (by kernel_rfl) rfl #[.agg #[.int .i64 a.f0, .slice G1 a.f1.length g1, .slice G2 a.f2.length g2, .slice G3 a.f3.length g3], .agg #[.int .i64 a.f0, .slice A1 a.f1.length c1, .slice A2 a.f2.length c2, .slice A3 a.f3.length c3]] (by rfl) rfl rfl (by (try simp only [List.map_toArray, List.map_cons, List.map_nil]); first | done | rfl) ?_
      refine (requal_calls a.bulk _ _ a a W15 IC.out HA.out (Nat.le_refl _) (by omega) (by omega)).mono ?_
      rintro e W16 ⟨rfl, hb_⟩
      rw [eqG_true rfl]
      have n_ := Aside0.mk (blk_below KA.out hb_)
      clear KA
      have KA := n_
      clear n_
      have n_ := Aside0.mk (blk_below KB.out hb_)
      clear KB
      have KB := n_
      clear n_
      have n_ := Aside0.mk (HA.out.below hb_)
      clear HA
      have HA := n_
      clear n_
      have n_ := Aside0.mk (HG.out.below hb_)
      clear HG
      have HG := n_
      clear n_
      have n_ := Aside0.mk (below_step HB.out hb_)
      clear HB
      have HB := n_
      clear n_
      have n_ := Aside0.mk (RX.out.below hb_)
      clear RX
      have RX := n_
      clear n_
      have n_ := Aside0.mk (blk_below KX.out hb_)
      clear KX
      have KX := n_
      clear n_
      have n_ := Aside0.mk (RY.out.below hb_)
      clear RY
      have RY := n_
      clear n_
      have n_ := Aside0.mk (blk_below KY.out hb_)
      clear KY
      have KY := n_
      clear n_
      have n_ := Aside0.mk (IC.out.below hb_)
      clear IC
      have IC := n_
      clear n_
      have n_ := Aside0.mk (blk_below KC.out hb_)
      clear KC
      have KC := n_
      clear n_
      clear hb_
      refine ⟨_, rfl, hK.out _ _ ⟨(blk_cell KA.out 0).trans rfl, (blk_cell KA.out 1).trans rfl, (blk_cell KA.out 2).trans rfl, (blk_cell KA.out 3).trans rfl, (blk_cell KB.out 0).trans rfl, (blk_cell KB.out 1).trans rfl, (blk_cell KB.out 2).trans rfl, (blk_cell KB.out 3).trans rfl, (blk_cell KX.out 0).trans rfl, (blk_cell KX.out 1).trans rfl, (blk_cell KX.out 2).trans rfl, (blk_cell KX.out 3).trans rfl, (blk_cell KY.out 0).trans rfl, (blk_cell KY.out 1).trans rfl, (blk_cell KY.out 2).trans rfl, (blk_cell KY.out 3).trans rfl, (blk_cell KC.out 0).trans rfl, (blk_cell KC.out 1).trans rfl, (blk_cell KC.out 2).trans rfl, (blk_cell KC.out 3).trans rfl, trivial⟩ (fun hHeld28 => ?_)⟩
      clear hK K hHeld23
      (refine norm_ (a' := ?_) ?_ ?_; rotate_left; focus (show Act.put _ (some 50) _ = _; simp only [Act.put, List.setIfInBounds_toArray, List.set_cons_zero, List.set_cons_succ]; rfl))
      (refine pure_ (i := 28) (N := some 51) (v := ?_) (a' := ?_) #[true, true, true, true, true, true, true, true, true, true, true, true, true, true, true, true, true, true, true, true, true, true, true, true, true, true, true, true, true, false, false, false, false, false, false, false, false, false, false, false] rfl rfl (by kernel_rfl) (fun _ _ _ h => h) (Or.inl ⟨by rfl, ?_⟩) ?_ ?_; rotate_left; (focus (intro w'_; go_simp; with_reducible rfl)); rotate_left; (focus (simp only [Act.put, List.setIfInBounds_toArray, List.set_cons_zero, List.set_cons_succ]; rfl)))
      (refine pure_ (i := 29) (N := some 52) (v := ?_) (a' := ?_) #[true, true, true, true, true, true, true, true, true, true, true, true, true, true, true, true, true, true, true, true, true, true, true, true, true, true, true, true, true, true, false, false, false, false, false, false, false, false, false, false] rfl rfl (by kernel_rfl) (fun _ _ _ h => h) (Or.inl ⟨by rfl, ?_⟩) ?_ ?_; rotate_left; (focus (intro w'_; go_simp; with_reducible rfl)); rotate_left; (focus (simp only [Act.put, List.setIfInBounds_toArray, List.set_cons_zero, List.set_cons_succ]; rfl)))
      (refine take_ (i := 30) (N := some 53) (v := ?_) (a' := ?_) #[true, true, true, true, true, true, true, true, true, true, true, true, true, true, true, true, true, true, true, true, true, true, true, true, true, true, true, true, true, true, true, false, false, false, false, false, false, false, false, false] rfl rfl (by kernel_rfl) (fun _ _ _ h => h) (Or.inl ⟨by rfl, ?_⟩) hHeld28 ?_ ?_; rotate_left; (focus (intro w'_ hs_; (repeat obtain ⟨_, hs_⟩ := hs_); go_simp; with_reducible rfl)); rotate_left; (focus (simp only [Act.put, List.setIfInBounds_toArray, List.set_cons_zero, List.set_cons_succ]; rfl)))
      (refine take_ (i := 31) (N := some 54) (v := ?_) (a' := ?_) #[true, true, true, true, true, true, true, true, true, true, true, true, true, true, true, true, true, true, true, true, true, true, true, true, true, true, true, true, true, true, true, true, false, false, false, false, false, false, false, false] rfl rfl (by kernel_rfl) (fun _ _ _ h => h) (Or.inl ⟨by rfl, ?_⟩) hHeld28 ?_ ?_; rotate_left; (focus (intro w'_ hs_; (repeat obtain ⟨_, hs_⟩ := hs_); go_simp; with_reducible rfl)); rotate_left; (focus (simp only [Act.put, List.setIfInBounds_toArray, List.set_cons_zero, List.set_cons_succ]; rfl)))
      refine one_ (i := 32) (N := some 55) #[true, true, true, true, true, true, true, true, true, true, true, true, true, true, true, true, true, true, true, true, true, true, true, true, true, true, true, true, true, true, true, true, true, false, false, false, false, false, false, false] rfl rfl (by kernel_rfl) (by decide) (fun K hK => ?_)
      refine goes_ Try.func16 (by kernel_rfl) rfl #[.agg #[.int .i64 a.f0, .slice E1 a.f1.length e1, .slice E2 a.f2.length e2, .slice E3 a.f3.length e3], .agg #[.int .i64 a.f0, .slice A1 a.f1.length c1, .slice A2 a.f2.length c2, .slice A3 a.f3.length c3]] (by rfl) rfl rfl (by (try simp only [List.map_toArray, List.map_cons, List.map_nil]); first | done | rfl) ?_
      refine (kept_calls a.bulk _ _ a W16 RX.out HA.out (by omega)).mono ?_
      rintro e W17 ⟨rfl, hb_⟩
      have n_ := Aside0.mk (blk_below KA.out hb_)
      clear KA
      have KA := n_
      clear n_
      have n_ := Aside0.mk (blk_below KB.out hb_)
      clear KB
      have KB := n_
      clear n_
      have n_ := Aside0.mk (HA.out.below hb_)
      clear HA
      have HA := n_
      clear n_
      have n_ := Aside0.mk (HG.out.below hb_)
      clear HG
      have HG := n_
      clear n_
      have n_ := Aside0.mk (below_step HB.out hb_)
      clear HB
      have HB := n_
      clear n_
      have n_ := Aside0.mk (RX.out.below hb_)
      clear RX
      have RX := n_
      clear n_
      have n_ := Aside0.mk (blk_below KX.out hb_)
      clear KX
      have KX := n_
      clear n_
      have n_ := Aside0.mk (RY.out.below hb_)
      clear RY
      have RY := n_
      clear n_
      have n_ := Aside0.mk (blk_below KY.out hb_)
      clear KY
      have KY := n_
      clear n_
      have n_ := Aside0.mk (IC.out.below hb_)
      clear IC
      have IC := n_
      clear n_
      have n_ := Aside0.mk (blk_below KC.out hb_)
      clear KC
      have KC := n_
      clear n_
      clear hb_
      refine ⟨_, rfl, hK.out _ _ ⟨(blk_cell KA.out 0).trans rfl, (blk_cell KA.out 1).trans rfl, (blk_cell KA.out 2).trans rfl, (blk_cell KA.out 3).trans rfl, (blk_cell KB.out 0).trans rfl, (blk_cell KB.out 1).trans rfl, (blk_cell KB.out 2).trans rfl, (blk_cell KB.out 3).trans rfl, (blk_cell KX.out 0).trans rfl, (blk_cell KX.out 1).trans rfl, (blk_cell KX.out 2).trans rfl, (blk_cell KX.out 3).trans rfl, (blk_cell KY.out 0).trans rfl, (blk_cell KY.out 1).trans rfl, (blk_cell KY.out 2).trans rfl, (blk_cell KY.out 3).trans rfl, (blk_cell KC.out 0).trans rfl, (blk_cell KC.out 1).trans rfl, (blk_cell KC.out 2).trans rfl, (blk_cell KC.out 3).trans rfl, trivial⟩ (fun hHeld33 => ?_)⟩
      clear hK K hHeld28
      (refine norm_ (a' := ?_) ?_ ?_; rotate_left; focus (show Act.put _ (some 55) _ = _; simp only [Act.put, List.setIfInBounds_toArray, List.set_cons_zero, List.set_cons_succ]; rfl))
      (refine pure_ (i := 33) (N := some 56) (v := ?_) (a' := ?_) #[true, true, true, true, true, true, true, true, true, true, true, true, true, true, true, true, true, true, true, true, true, true, true, true, true, true, true, true, true, true, true, true, true, true, false, false, false, false, false, false] rfl rfl (by kernel_rfl) (fun _ _ _ h => h) (Or.inl ⟨by rfl, ?_⟩) ?_ ?_; rotate_left; (focus (intro w'_; go_simp; with_reducible rfl)); rotate_left; (focus (simp only [Act.put, List.setIfInBounds_toArray, List.set_cons_zero, List.set_cons_succ]; rfl)))
      (refine pure_ (i := 34) (N := some 57) (v := ?_) (a' := ?_) #[true, true, true, true, true, true, true, true, true, true, true, true, true, true, true, true, true, true, true, true, true, true, true, true, true, true, true, true, true, true, true, true, true, true, true, false, false, false, false, false] rfl rfl (by kernel_rfl) (fun _ _ _ h => h) (Or.inl ⟨by rfl, ?_⟩) ?_ ?_; rotate_left; (focus (intro w'_; go_simp; with_reducible rfl)); rotate_left; (focus (simp only [Act.put, List.setIfInBounds_toArray, List.set_cons_zero, List.set_cons_succ]; rfl)))
      (refine take_ (i := 35) (N := some 58) (v := ?_) (a' := ?_) #[true, true, true, true, true, true, true, true, true, true, true, true, true, true, true, true, true, true, true, true, true, true, true, true, true, true, true, true, true, true, true, true, true, true, true, true, false, false, false, false] rfl rfl (by kernel_rfl) (fun _ _ _ h => h) (Or.inl ⟨by rfl, ?_⟩) hHeld33 ?_ ?_; rotate_left; (focus (intro w'_ hs_; (repeat obtain ⟨_, hs_⟩ := hs_); go_simp; with_reducible rfl)); rotate_left; (focus (simp only [Act.put, List.setIfInBounds_toArray, List.set_cons_zero, List.set_cons_succ]; rfl)))
      (refine take_ (i := 36) (N := some 59) (v := ?_) (a' := ?_) #[true, true, true, true, true, true, true, true, true, true, true, true, true, true, true, true, true, true, true, true, true, true, true, true, true, true, true, true, true, true, true, true, true, true, true, true, true, false, false, false] rfl rfl (by kernel_rfl) (fun _ _ _ h => h) (Or.inl ⟨by rfl, ?_⟩) hHeld33 ?_ ?_; rotate_left; (focus (intro w'_ hs_; (repeat obtain ⟨_, hs_⟩ := hs_); go_simp; with_reducible rfl)); rotate_left; (focus (simp only [Act.put, List.setIfInBounds_toArray, List.set_cons_zero, List.set_cons_succ]; rfl)))
      refine one_ (i := 37) (N := some 60) #[true, true, true, true, true, true, true, true, true, true, true, true, true, true, true, true, true, true, true, true, true, true, true, true, true, true, true, true, true, true, true, true, true, true, true, true, true, true, false, false] rfl rfl (by kernel_rfl) (by decide) (fun K hK => ?_)
      refine goes_ Try.func16 (by kernel_rfl) rfl #[.agg #[.int .i64 b.f0, .slice F1 b.f1.length f1, .slice F2 b.f2.length f2, .slice F3 b.f3.length f3], .agg #[.int .i64 b.f0, .slice D1 b.f1.length d1, .slice D2 b.f2.length d2, .slice D3 b.f3.length d3]] (by rfl) rfl rfl (by (try simp only [List.map_toArray, List.map_cons, List.map_nil]); first | done | rfl) ?_
      refine (kept_calls b.bulk _ _ b W17 RY.out HG.out (by omega)).mono ?_
      rintro e W18 ⟨rfl, hb_⟩
      have n_ := Aside0.mk (blk_below KA.out hb_)
      clear KA
      have KA := n_
      clear n_
      have n_ := Aside0.mk (blk_below KB.out hb_)
      clear KB
      have KB := n_
      clear n_
      have n_ := Aside0.mk (HA.out.below hb_)
      clear HA
      have HA := n_
      clear n_
      have n_ := Aside0.mk (HG.out.below hb_)
      clear HG
      have HG := n_
      clear n_
      have n_ := Aside0.mk (below_step HB.out hb_)
      clear HB
      have HB := n_
      clear n_
      have n_ := Aside0.mk (RX.out.below hb_)
      clear RX
      have RX := n_
      clear n_
      have n_ := Aside0.mk (blk_below KX.out hb_)
      clear KX
      have KX := n_
      clear n_
      have n_ := Aside0.mk (RY.out.below hb_)
      clear RY
      have RY := n_
      clear n_
      have n_ := Aside0.mk (blk_below KY.out hb_)
      clear KY
      have KY := n_
      clear n_
      have n_ := Aside0.mk (IC.out.below hb_)
      clear IC
      have IC := n_
      clear n_
      have n_ := Aside0.mk (blk_below KC.out hb_)
      clear KC
      have KC := n_
      clear n_
      clear hb_
      refine ⟨_, rfl, hK.out _ _ ⟨(blk_cell KA.out 0).trans rfl, (blk_cell KA.out 1).trans rfl, (blk_cell KA.out 2).trans rfl, (blk_cell KA.out 3).trans rfl, (blk_cell KB.out 0).trans rfl, (blk_cell KB.out 1).trans rfl, (blk_cell KB.out 2).trans rfl, (blk_cell KB.out 3).trans rfl, (blk_cell KX.out 0).trans rfl, (blk_cell KX.out 1).trans rfl, (blk_cell KX.out 2).trans rfl, (blk_cell KX.out 3).trans rfl, (blk_cell KY.out 0).trans rfl, (blk_cell KY.out 1).trans rfl, (blk_cell KY.out 2).trans rfl, (blk_cell KY.out 3).trans rfl, (blk_cell KC.out 0).trans rfl, (blk_cell KC.out 1).trans rfl, (blk_cell KC.out 2).trans rfl, (blk_cell KC.out 3).trans rfl, trivial⟩ (fun hHeld38 => ?_)⟩
      clear hK K hHeld33
      (refine norm_ (a' := ?_) ?_ ?_; rotate_left; focus (show Act.put _ (some 60) _ = _; simp only [Act.put, List.setIfInBounds_toArray, List.set_cons_zero, List.set_cons_succ]; rfl))
      (refine pure_ (i := 38) (N := some 61) (v := ?_) (a' := ?_) #[true, true, true, true, true, true, true, true, true, true, true, true, true, true, true, true, true, true, true, true, true, true, true, true, true, true, true, true, true, true, true, true, true, true, true, true, true, true, true, false] rfl rfl (by kernel_rfl) (fun _ _ _ h => h) (Or.inl ⟨by rfl, ?_⟩) ?_ ?_; rotate_left; (focus (intro w'_; go_simp; with_reducible rfl)); rotate_left; (focus (simp only [Act.put, List.setIfInBounds_toArray, List.set_cons_zero, List.set_cons_succ]; rfl)))
      (refine pure_ (i := 39) (N := some 4) (v := ?_) (a' := ?_) #[true, true, true, true, true, true, true, true, true, true, true, true, true, true, true, true, true, true, true, true, true, true, true, true, true, true, true, true, true, true, true, true, true, true, true, true, true, true, true, true] rfl rfl (by kernel_rfl) (fun _ _ _ h => h) (Or.inl ⟨by rfl, ?_⟩) ?_ ?_; rotate_left; (focus (intro w'_; go_simp; with_reducible rfl)); rotate_left; (focus (simp only [Act.put, List.setIfInBounds_toArray, List.set_cons_zero, List.set_cons_succ]; rfl)))
      refine done_ (by kernel_rfl) ?_
      clear hHeld38
      go_wp2_with fail
      go_ret
      exact ⟨rfl, HB.out⟩
end Go.Proofs.Ytmcbniobbbjdjaa.Tree
