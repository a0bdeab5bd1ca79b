/- The law TreeGrows by contract, at nodes that weigh no more than the bound, where the package errors' variable is laid. No conditions but those told. -/
import Derived.Test.YtmcbniobbbjdjaaDoorTAlive
import Derived.Test.YtmcbniobbbjdjaaDoorTErrs
import Derived.Test.YtmcbniobbbjdjaaDoorTGrows
import Derived.Test.YtmcbniobbbjdjaaDoorTEqual
namespace Go.Proofs.YtmcbniobbbjdjaaDoor.Tree
open Go.RowKit Go.Proofs.YtmcbniobbbjdjaaDoorW.PrintWords Go.Proofs.YtmcbniobbbjdjaaDoorW.PrintLast Go.Proofs.YtmcbniobbbjdjaaDoorW.PrintMore
set_option linter.unusedVariables false
set_option linter.unusedSimpArgs false
theorem isB_self' (x : Option (Int × Int)) : isB x (codeOf x) (placeOf x) = true := by unfold isB; simp
set_option maxRecDepth 100000 in
set_option maxHeartbeats 16000000 in
theorem grows_calls (A : Option Addr) (c : Nat) (l : List Nd) (w : World) (hC : Kd.C kNd w A l.length l) (hcap : l.length ≤ c) (hW : ndsW l ≤ 1048576) (hh : Handle w) :
    Calls Tryd.prog 5 #[.slice A l.length c] w fun e w' => e = .returned (.bool true) ∧ Below w.heap.size w w' := by
  have HH := Aside0.mk hh
  have HC := Aside0.mk hC
  have HCP := Aside0.mk hcap
  have HWL := Aside0.mk hW
  have HB := Aside0.mk (Below.refl w.heap.size w)
  clear hh hC hcap hW
  obtain ⟨h, hhh⟩ : ∃ x, x = grownG l := ⟨_, rfl⟩
  have hbk : h.bulk ≤ 1048577 := by have := grownG_bulk l; have := HWL.out; rw [hhh]; omega
  have HG := Aside0.mk hhh
  clear hhh
  obtain ⟨cd, hcd⟩ : ∃ x, x = codeOf (growErr l) := ⟨_, rfl⟩
  obtain ⟨pl, hpl⟩ : ∃ x, x = placeOf (growErr l) := ⟨_, rfl⟩
  have HIS := Aside0.mk (show isB (growErr l) cd pl = true by rw [hcd, hpl]; exact isB_self' _)
  have HCD := Aside0.mk (And.intro hcd hpl)
  clear hcd hpl
  have hun := Tryd.underlying26
  go_enter Tryd.func5, Tryd.ntmps5
  go_wp2_with fail
  refine (nodesCopied_calls A c l w HC.out (by have := HWL.out; omega)).mono ?_
  rintro e W1 ⟨u, rfl, hr_, hb_⟩
  obtain ⟨AM, cM, rfl⟩ := Kd.R_slice hr_
  have FM := Aside0.mk hr_
  clear hr_
  have n_ := Aside0.mk (below_step HB.out hb_)
  clear HB
  have HB := n_
  clear n_
  have n_ := Aside0.mk (Handle_below HH.out hb_)
  clear HH
  have HH := n_
  clear n_
  have n_ := Aside0.mk (Kd.C_below HC.out hb_)
  clear HC
  have HC := n_
  clear n_
  clear hb_
  go_wp2_with fail
  refine (grow_calls AM cM l W1 (Kd.R_reads' FM.out).2.2 (Kd.R_reads' FM.out).2.1 (by have := HWL.out; omega)).mono ?_
  rintro e W2 ⟨u, ev, rfl, hr_, hb_⟩
  obtain ⟨he_, hi_⟩ := hr_.one
  rw [← HG.out] at hi_
  have EE := Aside0.mk he_
  have IX := Aside0.mk hi_
  obtain ⟨E1, e1, E2, e2, E3, e3, rfl, _⟩ := hi_
  clear he_ hr_
  have n_ := Aside0.mk (below_step HB.out hb_)
  clear HB
  have HB := n_
  clear n_
  have n_ := Aside0.mk (Handle_below HH.out hb_)
  clear HH
  have HH := n_
  clear n_
  have n_ := Aside0.mk (Kd.C_below HC.out hb_)
  clear HC
  have HC := n_
  clear n_
  have n_ := Aside0.mk (Kd.R_below FM.out hb_)
  clear FM
  have FM := n_
  clear n_
  clear hb_
  go_upto_region 3 with fail
  obtain ⟨gx, hgx_⟩ : ∃ x, x = W2.heap.size := ⟨_, rfl⟩
  obtain ⟨W3, hW3_⟩ : ∃ x, x = W2.alloc (.cells #[.int .i64 h.f0, .slice E1 h.f1.length e1, .slice E2 h.f2.length e2, .slice E3 h.f3.length e3] 26) := ⟨_, rfl⟩
  rw [← hW3_, ← hgx_]
  have KX := Aside0.mk (show W3.heap[gx]? = some (.cells #[.int .i64 h.f0, .slice E1 h.f1.length e1, .slice E2 h.f2.length e2, .slice E3 h.f3.length e3] 26 (0, 0)) by rw [hW3_, hgx_]; exact World.alloc_heap_new _ _)
  have hb_ : Below W2.heap.size W2 W3 := by rw [hW3_]; exact below_alloc (Below.refl _ _) _
  clear hW3_ hgx_
  have n_ := Aside0.mk (below_step HB.out hb_)
  clear HB
  have HB := n_
  clear n_
  have n_ := Aside0.mk (Handle_below HH.out hb_)
  clear HH
  have HH := n_
  clear n_
  have n_ := Aside0.mk (Kd.C_below HC.out hb_)
  clear HC
  have HC := n_
  clear n_
  have n_ := Aside0.mk (Kd.R_below FM.out hb_)
  clear FM
  have FM := n_
  clear n_
  have n_ := Aside0.mk (EE.out.below hb_)
  clear EE
  have EE := n_
  clear n_
  have n_ := Aside0.mk (IX.out.below hb_)
  clear IX
  have IX := n_
  clear n_
  clear hb_
  have zX0_ : W3.cell? ⟨gx, 0, none⟩ = some (.int .i64 h.f0) := (blk_cell KX.out 0).trans rfl
  have zX1_ : W3.cell? ⟨gx, 1, none⟩ = some (.slice E1 h.f1.length e1) := (blk_cell KX.out 1).trans rfl
  have zX2_ : W3.cell? ⟨gx, 2, none⟩ = some (.slice E2 h.f2.length e2) := (blk_cell KX.out 2).trans rfl
  have zX3_ : W3.cell? ⟨gx, 3, none⟩ = some (.slice E3 h.f3.length e3) := (blk_cell KX.out 3).trans rfl
  go_wp2_with fail
  clear zX0_ zX1_ zX2_ zX3_
  refine (rgrow_calls A c l W3 HC.out HCP.out (by have := HWL.out; omega)).mono ?_
  rintro e W4 ⟨u, x, rfl, hr_, hb_⟩
  obtain ⟨hx_, hi_⟩ := hr_.one
  subst hx_
  rw [← HCD.out.1, ← HCD.out.2]
  rw [← HG.out] at hi_
  have IY := Aside0.mk hi_
  obtain ⟨D1, d1, D2, d2, D3, d3, rfl, _⟩ := hi_
  clear hr_
  have n_ := Aside0.mk (below_step HB.out hb_)
  clear HB
  have HB := n_
  clear n_
  have n_ := Aside0.mk (Handle_below HH.out hb_)
  clear HH
  have HH := n_
  clear n_
  have n_ := Aside0.mk (Kd.C_below HC.out hb_)
  clear HC
  have HC := n_
  clear n_
  have n_ := Aside0.mk (Kd.R_below FM.out hb_)
  clear FM
  have FM := n_
  clear n_
  have n_ := Aside0.mk (EE.out.below hb_)
  clear EE
  have EE := n_
  clear n_
  have n_ := Aside0.mk (IX.out.below hb_)
  clear IX
  have IX := n_
  clear n_
  have n_ := Aside0.mk (blk_below KX.out hb_)
  clear KX
  have KX := n_
  clear n_
  clear hb_
  have zX0_ : (W4.alloc (.cells #[.int .i64 h.f0, .slice D1 h.f1.length d1, .slice D2 h.f2.length d2, .slice D3 h.f3.length d3] 26)).cell? ⟨gx, 0, none⟩ = some (.int .i64 h.f0) := (blk_cell (blk_alloc KX.out _) 0).trans rfl
  have zX1_ : (W4.alloc (.cells #[.int .i64 h.f0, .slice D1 h.f1.length d1, .slice D2 h.f2.length d2, .slice D3 h.f3.length d3] 26)).cell? ⟨gx, 1, none⟩ = some (.slice E1 h.f1.length e1) := (blk_cell (blk_alloc KX.out _) 1).trans rfl
  have zX2_ : (W4.alloc (.cells #[.int .i64 h.f0, .slice D1 h.f1.length d1, .slice D2 h.f2.length d2, .slice D3 h.f3.length d3] 26)).cell? ⟨gx, 2, none⟩ = some (.slice E2 h.f2.length e2) := (blk_cell (blk_alloc KX.out _) 2).trans rfl
  have zX3_ : (W4.alloc (.cells #[.int .i64 h.f0, .slice D1 h.f1.length d1, .slice D2 h.f2.length d2, .slice D3 h.f3.length d3] 26)).cell? ⟨gx, 3, none⟩ = some (.slice E3 h.f3.length e3) := (blk_cell (blk_alloc KX.out _) 3).trans rfl
  go_upto_region 4 with fail
  clear zX0_ zX1_ zX2_ zX3_
  obtain ⟨gy, hgy_⟩ : ∃ x, x = W4.heap.size := ⟨_, rfl⟩
  obtain ⟨W5, hW5_⟩ : ∃ x, x = W4.alloc (.cells #[.int .i64 h.f0, .slice D1 h.f1.length d1, .slice D2 h.f2.length d2, .slice D3 h.f3.length d3] 26) := ⟨_, rfl⟩
  rw [← hW5_, ← hgy_]
  have KY := Aside0.mk (show W5.heap[gy]? = some (.cells #[.int .i64 h.f0, .slice D1 h.f1.length d1, .slice D2 h.f2.length d2, .slice D3 h.f3.length d3] 26 (0, 0)) by rw [hW5_, hgy_]; exact World.alloc_heap_new _ _)
  have hb_ : Below W4.heap.size W4 W5 := by rw [hW5_]; exact below_alloc (Below.refl _ _) _
  clear hW5_ hgy_
  have n_ := Aside0.mk (below_step HB.out hb_)
  clear HB
  have HB := n_
  clear n_
  have n_ := Aside0.mk (Handle_below HH.out hb_)
  clear HH
  have HH := n_
  clear n_
  have n_ := Aside0.mk (Kd.C_below HC.out hb_)
  clear HC
  have HC := n_
  clear n_
  have n_ := Aside0.mk (Kd.R_below FM.out hb_)
  clear FM
  have FM := n_
  clear n_
  have n_ := Aside0.mk (EE.out.below hb_)
  clear EE
  have EE := n_
  clear n_
  have n_ := Aside0.mk (IX.out.below hb_)
  clear IX
  have IX := n_
  clear n_
  have n_ := Aside0.mk (blk_below KX.out hb_)
  clear KX
  have KX := n_
  clear n_
  have n_ := Aside0.mk (IY.out.below hb_)
  clear IY
  have IY := n_
  clear n_
  clear hb_
  have zX0_ : W5.cell? ⟨gx, 0, none⟩ = some (.int .i64 h.f0) := (blk_cell KX.out 0).trans rfl
  have zX1_ : W5.cell? ⟨gx, 1, none⟩ = some (.slice E1 h.f1.length e1) := (blk_cell KX.out 1).trans rfl
  have zX2_ : W5.cell? ⟨gx, 2, none⟩ = some (.slice E2 h.f2.length e2) := (blk_cell KX.out 2).trans rfl
  have zX3_ : W5.cell? ⟨gx, 3, none⟩ = some (.slice E3 h.f3.length e3) := (blk_cell KX.out 3).trans rfl
  have zY0_ : W5.cell? ⟨gy, 0, none⟩ = some (.int .i64 h.f0) := (blk_cell KY.out 0).trans rfl
  have zY1_ : W5.cell? ⟨gy, 1, none⟩ = some (.slice D1 h.f1.length d1) := (blk_cell KY.out 1).trans rfl
  have zY2_ : W5.cell? ⟨gy, 2, none⟩ = some (.slice D2 h.f2.length d2) := (blk_cell KY.out 2).trans rfl
  have zY3_ : W5.cell? ⟨gy, 3, none⟩ = some (.slice D3 h.f3.length d3) := (blk_cell KY.out 3).trans rfl
  go_wp2_with fail
  clear zX0_ zX1_ zX2_ zX3_ zY0_ zY1_ zY2_ zY3_
  refine (alive_calls W5).mono ?_
  rintro e W6 ⟨rfl, hb_⟩
  have n_ := Aside0.mk (below_step HB.out hb_)
  clear HB
  have HB := n_
  clear n_
  have n_ := Aside0.mk (Handle_below HH.out hb_)
  clear HH
  have HH := n_
  clear n_
  have n_ := Aside0.mk (Kd.C_below HC.out hb_)
  clear HC
  have HC := n_
  clear n_
  have n_ := Aside0.mk (Kd.R_below FM.out hb_)
  clear FM
  have FM := n_
  clear n_
  have n_ := Aside0.mk (EE.out.below hb_)
  clear EE
  have EE := n_
  clear n_
  have n_ := Aside0.mk (IX.out.below hb_)
  clear IX
  have IX := n_
  clear n_
  have n_ := Aside0.mk (blk_below KX.out hb_)
  clear KX
  have KX := n_
  clear n_
  have n_ := Aside0.mk (IY.out.below hb_)
  clear IY
  have IY := n_
  clear n_
  have n_ := Aside0.mk (blk_below KY.out hb_)
  clear KY
  have KY := n_
  clear n_
  clear hb_
  have zX0_ : W6.cell? ⟨gx, 0, none⟩ = some (.int .i64 h.f0) := (blk_cell KX.out 0).trans rfl
  have zX1_ : W6.cell? ⟨gx, 1, none⟩ = some (.slice E1 h.f1.length e1) := (blk_cell KX.out 1).trans rfl
  have zX2_ : W6.cell? ⟨gx, 2, none⟩ = some (.slice E2 h.f2.length e2) := (blk_cell KX.out 2).trans rfl
  have zX3_ : W6.cell? ⟨gx, 3, none⟩ = some (.slice E3 h.f3.length e3) := (blk_cell KX.out 3).trans rfl
  have zY0_ : W6.cell? ⟨gy, 0, none⟩ = some (.int .i64 h.f0) := (blk_cell KY.out 0).trans rfl
  have zY1_ : W6.cell? ⟨gy, 1, none⟩ = some (.slice D1 h.f1.length d1) := (blk_cell KY.out 1).trans rfl
  have zY2_ : W6.cell? ⟨gy, 2, none⟩ = some (.slice D2 h.f2.length d2) := (blk_cell KY.out 2).trans rfl
  have zY3_ : W6.cell? ⟨gy, 3, none⟩ = some (.slice D3 h.f3.length d3) := (blk_cell KY.out 3).trans rfl
  go_wp2_with fail
  clear zX0_ zX1_ zX2_ zX3_ zY0_ zY1_ zY2_ zY3_
  refine (requal_calls h.bulk _ _ h h W6 IX.out IY.out (Nat.le_refl _) (by omega) (by omega)).mono ?_
  rintro e W7 ⟨rfl, hb_⟩
  rw [eqG_true rfl]
  have n_ := Aside0.mk (below_step HB.out hb_)
  clear HB
  have HB := n_
  clear n_
  have n_ := Aside0.mk (Handle_below HH.out hb_)
  clear HH
  have HH := n_
  clear n_
  have n_ := Aside0.mk (Kd.C_below HC.out hb_)
  clear HC
  have HC := n_
  clear n_
  have n_ := Aside0.mk (Kd.R_below FM.out hb_)
  clear FM
  have FM := n_
  clear n_
  have n_ := Aside0.mk (EE.out.below hb_)
  clear EE
  have EE := n_
  clear n_
  have n_ := Aside0.mk (IX.out.below hb_)
  clear IX
  have IX := n_
  clear n_
  have n_ := Aside0.mk (blk_below KX.out hb_)
  clear KX
  have KX := n_
  clear n_
  have n_ := Aside0.mk (IY.out.below hb_)
  clear IY
  have IY := n_
  clear n_
  have n_ := Aside0.mk (blk_below KY.out hb_)
  clear KY
  have KY := n_
  clear n_
  clear hb_
  go_wp2_with fail
  refine (is_calls ev (growErr l) cd pl W7 HH.out EE.out).mono ?_
  rintro e W8 ⟨rfl, hb_⟩
  rw [HIS.out]
  have n_ := Aside0.mk (below_step HB.out hb_)
  clear HB
  have HB := n_
  clear n_
  have n_ := Aside0.mk (Handle_below HH.out hb_)
  clear HH
  have HH := n_
  clear n_
  have n_ := Aside0.mk (Kd.C_below HC.out hb_)
  clear HC
  have HC := n_
  clear n_
  have n_ := Aside0.mk (Kd.R_below FM.out hb_)
  clear FM
  have FM := n_
  clear n_
  have n_ := Aside0.mk (EE.out.below hb_)
  clear EE
  have EE := n_
  clear n_
  have n_ := Aside0.mk (IX.out.below hb_)
  clear IX
  have IX := n_
  clear n_
  have n_ := Aside0.mk (blk_below KX.out hb_)
  clear KX
  have KX := n_
  clear n_
  have n_ := Aside0.mk (IY.out.below hb_)
  clear IY
  have IY := n_
  clear n_
  have n_ := Aside0.mk (blk_below KY.out hb_)
  clear KY
  have KY := n_
  clear n_
  clear hb_
  go_wp2_with fail
  refine (eqNodes_calls AM A cM c l W8 (Kd.R_reads' FM.out).2.2 HC.out (by have := HWL.out; have := nds_len l; omega) (fun x hx => by have := HWL.out; have := nds_mem hx; omega)).mono ?_
  rintro e w9 ⟨rfl, nb, rfl⟩
  have n_ := Aside0.mk (below_step HB.out (pw_below_drewN (Below.refl W8.heap.size W8) nb))
  clear HB
  have HB := n_
  clear n_
  have n_ := Aside0.mk (Handle_below HH.out (pw_below_drewN (Below.refl W8.heap.size W8) nb))
  clear HH
  have HH := n_
  clear n_
  have n_ := Aside0.mk (Kd.C_below HC.out (pw_below_drewN (Below.refl W8.heap.size W8) nb))
  clear HC
  have HC := n_
  clear n_
  have n_ := Aside0.mk (Kd.R_below FM.out (pw_below_drewN (Below.refl W8.heap.size W8) nb))
  clear FM
  have FM := n_
  clear n_
  have n_ := Aside0.mk (EE.out.below (pw_below_drewN (Below.refl W8.heap.size W8) nb))
  clear EE
  have EE := n_
  clear n_
  have n_ := Aside0.mk (IX.out.below (pw_below_drewN (Below.refl W8.heap.size W8) nb))
  clear IX
  have IX := n_
  clear n_
  have n_ := Aside0.mk (blk_below KX.out (pw_below_drewN (Below.refl W8.heap.size W8) nb))
  clear KX
  have KX := n_
  clear n_
  have n_ := Aside0.mk (IY.out.below (pw_below_drewN (Below.refl W8.heap.size W8) nb))
  clear IY
  have IY := n_
  clear n_
  have n_ := Aside0.mk (blk_below KY.out (pw_below_drewN (Below.refl W8.heap.size W8) nb))
  clear KY
  have KY := n_
  clear n_
  go_wp2_with fail
  go_ret
  exact ⟨rfl, HB.out⟩
end Go.Proofs.YtmcbniobbbjdjaaDoor.Tree
