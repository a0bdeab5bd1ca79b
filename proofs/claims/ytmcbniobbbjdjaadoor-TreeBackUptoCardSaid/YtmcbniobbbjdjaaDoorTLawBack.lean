/- The law TreeBack by contract, at trees and nodes that weigh no more than the bound, where the package errors' variable is laid. No conditions but those told. -/
import Derived.Test.YtmcbniobbbjdjaaDoorTSmall
import Derived.Test.YtmcbniobbbjdjaaDoorTAlive
import Derived.Test.YtmcbniobbbjdjaaDoorTErrs
import Derived.Test.YtmcbniobbbjdjaaDoorTBackSem
import Derived.Test.YtmcbniobbbjdjaaDoorTEqual
import Derived.Test.YtmcbniobbbjdjaaDoorTTells
namespace Go.Proofs.YtmcbniobbbjdjaaDoor.Tree
open Go.RowKit Go.Proofs.YtmcbniobbbjdjaaDoorW.PrintWords Go.Proofs.YtmcbniobbbjdjaaDoorW.PrintLast Go.Proofs.YtmcbniobbbjdjaaDoorW.PrintMore
set_option linter.unusedVariables false
set_option linter.unusedSimpArgs false
set_option maxRecDepth 100000 in
set_option maxHeartbeats 16000000 in
theorem back_calls (v : Value) (g : Ge) (A : Option Addr) (c : Nat) (l : List Nd) (w : World) (hv : IsG w v g) (hbk : g.bulk ≤ 1048576) (hC : Kd.C kNd w A l.length l) (hcap : l.length ≤ c) (hW : ndsW l ≤ 1048576) (hh : Handle w) :
    Calls Tryd.prog 6 #[v, .slice A l.length c] w fun e w' => e = .returned (.bool true) ∧ Below w.heap.size w w' := by
  have HV := Aside0.mk hv
  have HH0 := Aside0.mk hh
  have HC0 := Aside0.mk hC
  have HCP := Aside0.mk hcap
  have HWL := Aside0.mk hW
  obtain ⟨A1, c1, A2, c2, A3, c3, rfl, _⟩ := hv
  clear hh hC hcap hW
  have hun := Tryd.underlying26
  go_enter Tryd.func6, Tryd.ntmps6
  go_wp2_with fail
  obtain ⟨ga, hga⟩ : ∃ x, x = w.heap.size := ⟨_, rfl⟩
  obtain ⟨W0, hW0⟩ : ∃ x, x = w.alloc (.cells #[.int .i64 g.f0, .slice A1 g.f1.length c1, .slice A2 g.f2.length c2, .slice A3 g.f3.length c3] 26) := ⟨_, rfl⟩
  rw [← hW0, ← hga]
  have KA := Aside0.mk (show W0.heap[ga]? = some (.cells #[.int .i64 g.f0, .slice A1 g.f1.length c1, .slice A2 g.f2.length c2, .slice A3 g.f3.length c3] 26 (0, 0)) by rw [hW0, hga]; exact World.alloc_heap_new _ _)
  have HB := Aside0.mk (show Below w.heap.size w W0 by rw [hW0]; exact below_alloc (Below.refl _ _) _)
  have IA := Aside0.mk (HV.out.below HB.out)
  have HH := Aside0.mk (Handle_below HH0.out HB.out)
  have HC := Aside0.mk (Kd.C_below HC0.out HB.out)
  clear hW0 hga HH0 HC0
  refine (alive_calls W0).mono ?_
  rintro e W1 ⟨rfl, hb_⟩
  have n_ := Aside0.mk (blk_below KA.out hb_)
  clear KA
  have KA := n_
  clear n_
  have n_ := Aside0.mk (IA.out.below hb_)
  clear IA
  have IA := n_
  clear n_
  have n_ := Aside0.mk (below_step HB.out hb_)
  clear HB
  have HB := n_
  clear n_
  have n_ := Aside0.mk (Handle_below HH.out hb_)
  clear HH
  have HH := n_
  clear n_
  have n_ := Aside0.mk (Kd.C_below HC.out hb_)
  clear HC
  have HC := n_
  clear n_
  clear hb_
  have zA0_ : W1.cell? ⟨ga, 0, none⟩ = some (.int .i64 g.f0) := (blk_cell KA.out 0).trans rfl
  have zA1_ : W1.cell? ⟨ga, 1, none⟩ = some (.slice A1 g.f1.length c1) := (blk_cell KA.out 1).trans rfl
  have zA2_ : W1.cell? ⟨ga, 2, none⟩ = some (.slice A2 g.f2.length c2) := (blk_cell KA.out 2).trans rfl
  have zA3_ : W1.cell? ⟨ga, 3, none⟩ = some (.slice A3 g.f3.length c3) := (blk_cell KA.out 3).trans rfl
  go_wp2_with fail
  clear zA0_ zA1_ zA2_ zA3_
  refine (small_calls _ g W1 IA.out (by omega)).mono ?_
  rintro e W2 ⟨rfl, hb_⟩
  have n_ := Aside0.mk (blk_below KA.out hb_)
  clear KA
  have KA := n_
  clear n_
  have n_ := Aside0.mk (IA.out.below hb_)
  clear IA
  have IA := n_
  clear n_
  have n_ := Aside0.mk (below_step HB.out hb_)
  clear HB
  have HB := n_
  clear n_
  have n_ := Aside0.mk (Handle_below HH.out hb_)
  clear HH
  have HH := n_
  clear n_
  have n_ := Aside0.mk (Kd.C_below HC.out hb_)
  clear HC
  have HC := n_
  clear n_
  clear hb_
  have zA0_ : W2.cell? ⟨ga, 0, none⟩ = some (.int .i64 g.f0) := (blk_cell KA.out 0).trans rfl
  have zA1_ : W2.cell? ⟨ga, 1, none⟩ = some (.slice A1 g.f1.length c1) := (blk_cell KA.out 1).trans rfl
  have zA2_ : W2.cell? ⟨ga, 2, none⟩ = some (.slice A2 g.f2.length c2) := (blk_cell KA.out 2).trans rfl
  have zA3_ : W2.cell? ⟨ga, 3, none⟩ = some (.slice A3 g.f3.length c3) := (blk_cell KA.out 3).trans rfl
  cases hs1 : isSmall g with
  | false =>
    clear hs1
    go_wp2_with fail
    clear zA0_ zA1_ zA2_ zA3_
    refine (alive_calls W2).mono ?_
    rintro e W3 ⟨rfl, hb_⟩
    have n_ := Aside0.mk (blk_below KA.out hb_)
    clear KA
    have KA := n_
    clear n_
    have n_ := Aside0.mk (IA.out.below hb_)
    clear IA
    have IA := n_
    clear n_
    have n_ := Aside0.mk (below_step HB.out hb_)
    clear HB
    have HB := n_
    clear n_
    have n_ := Aside0.mk (Handle_below HH.out hb_)
    clear HH
    have HH := n_
    clear n_
    have n_ := Aside0.mk (Kd.C_below HC.out hb_)
    clear HC
    have HC := n_
    clear n_
    clear hb_
    go_wp2_with fail
    go_ret
    exact ⟨rfl, HB.out⟩
  | true =>
    clear hs1
    go_wp2_with fail
    clear zA0_ zA1_ zA2_ zA3_
    refine (grow_calls A c l W2 HC.out HCP.out (by have := HWL.out; omega)).mono ?_
    rintro e W3 ⟨u, ev, rfl, hr_, hb_⟩
    have GR := Aside0.mk (grown_flat hr_)
    clear hr_
    have n_ := Aside0.mk (blk_below KA.out hb_)
    clear KA
    have KA := n_
    clear n_
    have n_ := Aside0.mk (IA.out.below hb_)
    clear IA
    have IA := n_
    clear n_
    have n_ := Aside0.mk (below_step HB.out hb_)
    clear HB
    have HB := n_
    clear n_
    have n_ := Aside0.mk (Handle_below HH.out hb_)
    clear HH
    have HH := n_
    clear n_
    have n_ := Aside0.mk (Kd.C_below HC.out hb_)
    clear HC
    have HC := n_
    clear n_
    clear hb_
    have zA0_ : W3.cell? ⟨ga, 0, none⟩ = some (.int .i64 g.f0) := (blk_cell KA.out 0).trans rfl
    have zA1_ : W3.cell? ⟨ga, 1, none⟩ = some (.slice A1 g.f1.length c1) := (blk_cell KA.out 1).trans rfl
    have zA2_ : W3.cell? ⟨ga, 2, none⟩ = some (.slice A2 g.f2.length c2) := (blk_cell KA.out 2).trans rfl
    have zA3_ : W3.cell? ⟨ga, 3, none⟩ = some (.slice A3 g.f3.length c3) := (blk_cell KA.out 3).trans rfl
    rcases GR.out with ⟨hu_, ee, he_⟩ | ⟨hv_, h, hk_, hf_, hbh_, hc_⟩
    · obtain ⟨ea, ec⟩ := ee
      have hu2_ : u = .agg #[.int .i64 0, .slice none 0 0, .slice none 0 0, .slice none 0 0] := hu_
      clear hu_
      subst hu2_
      clear GR
      obtain ⟨gf, rfl, hf_⟩ := he_
      clear hf_
      clear zA0_ zA1_ zA2_ zA3_
      have zA0_ : (W3.alloc (.cells #[.int .i64 0, .slice none 0 0, .slice none 0 0, .slice none 0 0] 26)).cell? ⟨ga, 0, none⟩ = some (.int .i64 g.f0) := (blk_cell (blk_alloc KA.out _) 0).trans rfl
      have zA1_ : (W3.alloc (.cells #[.int .i64 0, .slice none 0 0, .slice none 0 0, .slice none 0 0] 26)).cell? ⟨ga, 1, none⟩ = some (.slice A1 g.f1.length c1) := (blk_cell (blk_alloc KA.out _) 1).trans rfl
      have zA2_ : (W3.alloc (.cells #[.int .i64 0, .slice none 0 0, .slice none 0 0, .slice none 0 0] 26)).cell? ⟨ga, 2, none⟩ = some (.slice A2 g.f2.length c2) := (blk_cell (blk_alloc KA.out _) 2).trans rfl
      have zA3_ : (W3.alloc (.cells #[.int .i64 0, .slice none 0 0, .slice none 0 0, .slice none 0 0] 26)).cell? ⟨ga, 3, none⟩ = some (.slice A3 g.f3.length c3) := (blk_cell (blk_alloc KA.out _) 3).trans rfl
      go_upto_region 8 with fail
      clear zA0_ zA1_ zA2_ zA3_
      obtain ⟨gz, hgz_⟩ : ∃ x, x = W3.heap.size := ⟨_, rfl⟩
      obtain ⟨W4, hW4_⟩ : ∃ x, x = W3.alloc (.cells #[.int .i64 0, .slice none 0 0, .slice none 0 0, .slice none 0 0] 26) := ⟨_, rfl⟩
      rw [← hW4_, ← hgz_]
      have KZ := Aside0.mk (show W4.heap[gz]? = some (.cells #[.int .i64 0, .slice none 0 0, .slice none 0 0, .slice none 0 0] 26 (0, 0)) by rw [hW4_, hgz_]; exact World.alloc_heap_new _ _)
      have hb_ : Below W3.heap.size W3 W4 := by rw [hW4_]; exact below_alloc (Below.refl _ _) _
      clear hW4_ hgz_
      have n_ := Aside0.mk (blk_below KA.out hb_)
      clear KA
      have KA := n_
      clear n_
      have n_ := Aside0.mk (IA.out.below hb_)
      clear IA
      have IA := n_
      clear n_
      have n_ := Aside0.mk (below_step HB.out hb_)
      clear HB
      have HB := n_
      clear n_
      have n_ := Aside0.mk (Handle_below HH.out hb_)
      clear HH
      have HH := n_
      clear n_
      have n_ := Aside0.mk (Kd.C_below HC.out hb_)
      clear HC
      have HC := n_
      clear n_
      clear hb_
      clear KZ
      cases hq : checkR g with
      | some ee =>
        obtain ⟨ea2, ec2⟩ := ee
        have HQ := Aside0.mk hq
        clear hq
        have zA0_ : W4.cell? ⟨ga, 0, none⟩ = some (.int .i64 g.f0) := (blk_cell KA.out 0).trans rfl
        have zA1_ : W4.cell? ⟨ga, 1, none⟩ = some (.slice A1 g.f1.length c1) := (blk_cell KA.out 1).trans rfl
        have zA2_ : W4.cell? ⟨ga, 2, none⟩ = some (.slice A2 g.f2.length c2) := (blk_cell KA.out 2).trans rfl
        have zA3_ : W4.cell? ⟨ga, 3, none⟩ = some (.slice A3 g.f3.length c3) := (blk_cell KA.out 3).trans rfl
        go_wp2_with fail
        clear zA0_ zA1_ zA2_ zA3_
        refine (flat_calls _ g W4 IA.out (by omega)).mono ?_
        rintro e W5 ⟨ul, ue, rfl, hf_, hb_⟩
        obtain ⟨hr_, he_⟩ := hf_.got
        have hL0 : flatL g = [] := by unfold flatL; rw [HQ.out]
        rw [hL0] at hr_
        rw [HQ.out] at he_
        obtain ⟨AU, cU, rfl⟩ := Kd.R_slice hr_
        have EE := Aside0.mk he_
        obtain ⟨gf2, rfl, hf2_⟩ := he_
        clear hr_ hf_ hf2_ hL0
        have n_ := Aside0.mk (blk_below KA.out hb_)
        clear KA
        have KA := n_
        clear n_
        have n_ := Aside0.mk (IA.out.below hb_)
        clear IA
        have IA := n_
        clear n_
        have n_ := Aside0.mk (below_step HB.out hb_)
        clear HB
        have HB := n_
        clear n_
        have n_ := Aside0.mk (Handle_below HH.out hb_)
        clear HH
        have HH := n_
        clear n_
        have n_ := Aside0.mk (Kd.C_below HC.out hb_)
        clear HC
        have HC := n_
        clear n_
        clear hb_
        have zA0_ : W5.cell? ⟨ga, 0, none⟩ = some (.int .i64 g.f0) := (blk_cell KA.out 0).trans rfl
        have zA1_ : W5.cell? ⟨ga, 1, none⟩ = some (.slice A1 g.f1.length c1) := (blk_cell KA.out 1).trans rfl
        have zA2_ : W5.cell? ⟨ga, 2, none⟩ = some (.slice A2 g.f2.length c2) := (blk_cell KA.out 2).trans rfl
        have zA3_ : W5.cell? ⟨ga, 3, none⟩ = some (.slice A3 g.f3.length c3) := (blk_cell KA.out 3).trans rfl
        go_wp2_with fail
        clear zA0_ zA1_ zA2_ zA3_
        refine (check_calls _ g W5 IA.out (by omega)).mono ?_
        rintro e W6 ⟨ue2, rfl, he_, hb_⟩
        rw [HQ.out] at he_
        have EC := Aside0.mk he_
        obtain ⟨gf3, rfl, hf3_⟩ := he_
        clear hf3_
        have n_ := Aside0.mk (blk_below KA.out hb_)
        clear KA
        have KA := n_
        clear n_
        have n_ := Aside0.mk (IA.out.below hb_)
        clear IA
        have IA := n_
        clear n_
        have n_ := Aside0.mk (below_step HB.out hb_)
        clear HB
        have HB := n_
        clear n_
        have n_ := Aside0.mk (Handle_below HH.out hb_)
        clear HH
        have HH := n_
        clear n_
        have n_ := Aside0.mk (Kd.C_below HC.out hb_)
        clear HC
        have HC := n_
        clear n_
        have n_ := Aside0.mk (EE.out.below hb_)
        clear EE
        have EE := n_
        clear n_
        clear hb_
        have zA0_ : W6.cell? ⟨ga, 0, none⟩ = some (.int .i64 g.f0) := (blk_cell KA.out 0).trans rfl
        have zA1_ : W6.cell? ⟨ga, 1, none⟩ = some (.slice A1 g.f1.length c1) := (blk_cell KA.out 1).trans rfl
        have zA2_ : W6.cell? ⟨ga, 2, none⟩ = some (.slice A2 g.f2.length c2) := (blk_cell KA.out 2).trans rfl
        have zA3_ : W6.cell? ⟨ga, 3, none⟩ = some (.slice A3 g.f3.length c3) := (blk_cell KA.out 3).trans rfl
        go_wp2_with fail
        clear zA0_ zA1_ zA2_ zA3_
        refine (Code_calls _ _ W6 HH.out EE.out).mono ?_
        rintro e W7 ⟨rfl, hb_⟩
        have n_ := Aside0.mk (blk_below KA.out hb_)
        clear KA
        have KA := n_
        clear n_
        have n_ := Aside0.mk (IA.out.below hb_)
        clear IA
        have IA := n_
        clear n_
        have n_ := Aside0.mk (below_step HB.out hb_)
        clear HB
        have HB := n_
        clear n_
        have n_ := Aside0.mk (Handle_below HH.out hb_)
        clear HH
        have HH := n_
        clear n_
        have n_ := Aside0.mk (Kd.C_below HC.out hb_)
        clear HC
        have HC := n_
        clear n_
        have n_ := Aside0.mk (EE.out.below hb_)
        clear EE
        have EE := n_
        clear n_
        have n_ := Aside0.mk (EC.out.below hb_)
        clear EC
        have EC := n_
        clear n_
        clear hb_
        go_wp2_with fail
        refine (Code_calls _ _ W7 HH.out EC.out).mono ?_
        rintro e W8 ⟨rfl, hb_⟩
        have n_ := Aside0.mk (blk_below KA.out hb_)
        clear KA
        have KA := n_
        clear n_
        have n_ := Aside0.mk (IA.out.below hb_)
        clear IA
        have IA := n_
        clear n_
        have n_ := Aside0.mk (below_step HB.out hb_)
        clear HB
        have HB := n_
        clear n_
        have n_ := Aside0.mk (Handle_below HH.out hb_)
        clear HH
        have HH := n_
        clear n_
        have n_ := Aside0.mk (Kd.C_below HC.out hb_)
        clear HC
        have HC := n_
        clear n_
        have n_ := Aside0.mk (EE.out.below hb_)
        clear EE
        have EE := n_
        clear n_
        have n_ := Aside0.mk (EC.out.below hb_)
        clear EC
        have EC := n_
        clear n_
        clear hb_
        go_wp2_with fail
        refine (Place_calls _ _ W8 HH.out EE.out).mono ?_
        rintro e W9 ⟨rfl, hb_⟩
        have n_ := Aside0.mk (blk_below KA.out hb_)
        clear KA
        have KA := n_
        clear n_
        have n_ := Aside0.mk (IA.out.below hb_)
        clear IA
        have IA := n_
        clear n_
        have n_ := Aside0.mk (below_step HB.out hb_)
        clear HB
        have HB := n_
        clear n_
        have n_ := Aside0.mk (Handle_below HH.out hb_)
        clear HH
        have HH := n_
        clear n_
        have n_ := Aside0.mk (Kd.C_below HC.out hb_)
        clear HC
        have HC := n_
        clear n_
        have n_ := Aside0.mk (EE.out.below hb_)
        clear EE
        have EE := n_
        clear n_
        have n_ := Aside0.mk (EC.out.below hb_)
        clear EC
        have EC := n_
        clear n_
        clear hb_
        go_wp2_with fail
        refine (Place_calls _ _ W9 HH.out EC.out).mono ?_
        rintro e W10 ⟨rfl, hb_⟩
        have n_ := Aside0.mk (blk_below KA.out hb_)
        clear KA
        have KA := n_
        clear n_
        have n_ := Aside0.mk (IA.out.below hb_)
        clear IA
        have IA := n_
        clear n_
        have n_ := Aside0.mk (below_step HB.out hb_)
        clear HB
        have HB := n_
        clear n_
        have n_ := Aside0.mk (Handle_below HH.out hb_)
        clear HH
        have HH := n_
        clear n_
        have n_ := Aside0.mk (Kd.C_below HC.out hb_)
        clear HC
        have HC := n_
        clear n_
        have n_ := Aside0.mk (EE.out.below hb_)
        clear EE
        have EE := n_
        clear n_
        have n_ := Aside0.mk (EC.out.below hb_)
        clear EC
        have EC := n_
        clear n_
        clear hb_
        go_wp2_with fail
        go_ret
        exact ⟨rfl, HB.out⟩
      | none =>
        have HQ := Aside0.mk hq
        clear hq
        obtain ⟨L, hL⟩ : ∃ x, x = flatL g := ⟨_, rfl⟩
        have HLN := Aside0.mk (show L = flatN g by rw [hL, flatL_canon HQ.out])
        have HLW := Aside0.mk (show ndsW L ≤ 2097152 by have := ndsW_flat g; rw [hL, flatL_canon HQ.out]; omega)
        have HLP := Aside0.mk (show linesTo L L.length = ptsOf (nodes g 1 0) by rw [hL]; exact linesTo_all HQ.out)
        have HLC := Aside0.mk (show L.length = (nodes g 1 0).length by rw [hL]; exact flatL_nodes HQ.out)
        have hLl : L.length ≤ 2097152 := by have := flatL_len g; rw [hL]; omega
        have HL := Aside0.mk hL
        clear hL
        have zA0_ : W4.cell? ⟨ga, 0, none⟩ = some (.int .i64 g.f0) := (blk_cell KA.out 0).trans rfl
        have zA1_ : W4.cell? ⟨ga, 1, none⟩ = some (.slice A1 g.f1.length c1) := (blk_cell KA.out 1).trans rfl
        have zA2_ : W4.cell? ⟨ga, 2, none⟩ = some (.slice A2 g.f2.length c2) := (blk_cell KA.out 2).trans rfl
        have zA3_ : W4.cell? ⟨ga, 3, none⟩ = some (.slice A3 g.f3.length c3) := (blk_cell KA.out 3).trans rfl
        go_wp2_with fail
        clear zA0_ zA1_ zA2_ zA3_
        refine (flat_calls _ g W4 IA.out (by omega)).mono ?_
        rintro e W5 ⟨ul, ue, rfl, hf_, hb_⟩
        obtain ⟨hr_, he_⟩ := hf_.got
        rw [← HL.out] at hr_
        rw [HQ.out] at he_
        obtain rfl : ue = .nilIface := he_
        obtain ⟨AM, cM, rfl⟩ := Kd.R_slice hr_
        have FM := Aside0.mk hr_
        clear hr_ hf_
        have n_ := Aside0.mk (blk_below KA.out hb_)
        clear KA
        have KA := n_
        clear n_
        have n_ := Aside0.mk (IA.out.below hb_)
        clear IA
        have IA := n_
        clear n_
        have n_ := Aside0.mk (below_step HB.out hb_)
        clear HB
        have HB := n_
        clear n_
        have n_ := Aside0.mk (Handle_below HH.out hb_)
        clear HH
        have HH := n_
        clear n_
        have n_ := Aside0.mk (Kd.C_below HC.out hb_)
        clear HC
        have HC := n_
        clear n_
        clear hb_
        have zA0_ : W5.cell? ⟨ga, 0, none⟩ = some (.int .i64 g.f0) := (blk_cell KA.out 0).trans rfl
        have zA1_ : W5.cell? ⟨ga, 1, none⟩ = some (.slice A1 g.f1.length c1) := (blk_cell KA.out 1).trans rfl
        have zA2_ : W5.cell? ⟨ga, 2, none⟩ = some (.slice A2 g.f2.length c2) := (blk_cell KA.out 2).trans rfl
        have zA3_ : W5.cell? ⟨ga, 3, none⟩ = some (.slice A3 g.f3.length c3) := (blk_cell KA.out 3).trans rfl
        go_wp2_with fail
        clear zA0_ zA1_ zA2_ zA3_
        refine (check_calls _ g W5 IA.out (by omega)).mono ?_
        rintro e W6 ⟨ue2, rfl, he_, hb_⟩
        rw [HQ.out] at he_
        obtain rfl : ue2 = .nilIface := he_
        have n_ := Aside0.mk (blk_below KA.out hb_)
        clear KA
        have KA := n_
        clear n_
        have n_ := Aside0.mk (IA.out.below hb_)
        clear IA
        have IA := n_
        clear n_
        have n_ := Aside0.mk (below_step HB.out hb_)
        clear HB
        have HB := n_
        clear n_
        have n_ := Aside0.mk (Handle_below HH.out hb_)
        clear HH
        have HH := n_
        clear n_
        have n_ := Aside0.mk (Kd.C_below HC.out hb_)
        clear HC
        have HC := n_
        clear n_
        have n_ := Aside0.mk (Kd.R_below FM.out hb_)
        clear FM
        have FM := n_
        clear n_
        clear hb_
        have zA0_ : W6.cell? ⟨ga, 0, none⟩ = some (.int .i64 g.f0) := (blk_cell KA.out 0).trans rfl
        have zA1_ : W6.cell? ⟨ga, 1, none⟩ = some (.slice A1 g.f1.length c1) := (blk_cell KA.out 1).trans rfl
        have zA2_ : W6.cell? ⟨ga, 2, none⟩ = some (.slice A2 g.f2.length c2) := (blk_cell KA.out 2).trans rfl
        have zA3_ : W6.cell? ⟨ga, 3, none⟩ = some (.slice A3 g.f3.length c3) := (blk_cell KA.out 3).trans rfl
        go_wp2_with fail
        clear zA0_ zA1_ zA2_ zA3_
        refine (grow_calls AM cM L W6 (Kd.R_reads' FM.out).2.2 (Kd.R_reads' FM.out).2.1 HLW.out).mono ?_
        rintro e W7 ⟨u2, ev2, rfl, hr_, hb_⟩
        rw [HLN.out] at hr_
        obtain ⟨hc_, hv_⟩ := grown_back HQ.out hr_
        subst hv_
        obtain ⟨cs_, rfl, hM_⟩ := hc_
        obtain ⟨D1, d1, D2, d2, D3, d3, rfl, _⟩ := kGe_open (kSp_K _ ((kSp _).K_of_M hM_))
        have IY := Aside0.mk (show IsG W7 (.agg #[.int .i64 g.f0, .slice D1 g.f1.length d1, .slice D2 g.f2.length d2, .slice D3 g.f3.length d3]) g from IsG.of (kSp_K _ ((kSp _).K_of_M hM_)))
        clear hM_ hr_
        have n_ := Aside0.mk (blk_below KA.out hb_)
        clear KA
        have KA := n_
        clear n_
        have n_ := Aside0.mk (IA.out.below hb_)
        clear IA
        have IA := n_
        clear n_
        have n_ := Aside0.mk (below_step HB.out hb_)
        clear HB
        have HB := n_
        clear n_
        have n_ := Aside0.mk (Handle_below HH.out hb_)
        clear HH
        have HH := n_
        clear n_
        have n_ := Aside0.mk (Kd.C_below HC.out hb_)
        clear HC
        have HC := n_
        clear n_
        have n_ := Aside0.mk (Kd.R_below FM.out hb_)
        clear FM
        have FM := n_
        clear n_
        clear hb_
        have zA0_ : (W7.alloc (.cells #[.int .i64 g.f0, .slice D1 g.f1.length d1, .slice D2 g.f2.length d2, .slice D3 g.f3.length d3] 26)).cell? ⟨ga, 0, none⟩ = some (.int .i64 g.f0) := (blk_cell (blk_alloc KA.out _) 0).trans rfl
        have zA1_ : (W7.alloc (.cells #[.int .i64 g.f0, .slice D1 g.f1.length d1, .slice D2 g.f2.length d2, .slice D3 g.f3.length d3] 26)).cell? ⟨ga, 1, none⟩ = some (.slice A1 g.f1.length c1) := (blk_cell (blk_alloc KA.out _) 1).trans rfl
        have zA2_ : (W7.alloc (.cells #[.int .i64 g.f0, .slice D1 g.f1.length d1, .slice D2 g.f2.length d2, .slice D3 g.f3.length d3] 26)).cell? ⟨ga, 2, none⟩ = some (.slice A2 g.f2.length c2) := (blk_cell (blk_alloc KA.out _) 2).trans rfl
        have zA3_ : (W7.alloc (.cells #[.int .i64 g.f0, .slice D1 g.f1.length d1, .slice D2 g.f2.length d2, .slice D3 g.f3.length d3] 26)).cell? ⟨ga, 3, none⟩ = some (.slice A3 g.f3.length c3) := (blk_cell (blk_alloc KA.out _) 3).trans rfl
        go_upto_region 13 with fail
        clear zA0_ zA1_ zA2_ zA3_
        obtain ⟨gy, hgy_⟩ : ∃ x, x = W7.heap.size := ⟨_, rfl⟩
        obtain ⟨W8, hW8_⟩ : ∃ x, x = W7.alloc (.cells #[.int .i64 g.f0, .slice D1 g.f1.length d1, .slice D2 g.f2.length d2, .slice D3 g.f3.length d3] 26) := ⟨_, rfl⟩
        rw [← hW8_, ← hgy_]
        have KY := Aside0.mk (show W8.heap[gy]? = some (.cells #[.int .i64 g.f0, .slice D1 g.f1.length d1, .slice D2 g.f2.length d2, .slice D3 g.f3.length d3] 26 (0, 0)) by rw [hW8_, hgy_]; exact World.alloc_heap_new _ _)
        have hb_ : Below W7.heap.size W7 W8 := by rw [hW8_]; exact below_alloc (Below.refl _ _) _
        clear hW8_ hgy_
        have n_ := Aside0.mk (blk_below KA.out hb_)
        clear KA
        have KA := n_
        clear n_
        have n_ := Aside0.mk (IA.out.below hb_)
        clear IA
        have IA := n_
        clear n_
        have n_ := Aside0.mk (below_step HB.out hb_)
        clear HB
        have HB := n_
        clear n_
        have n_ := Aside0.mk (Handle_below HH.out hb_)
        clear HH
        have HH := n_
        clear n_
        have n_ := Aside0.mk (Kd.C_below HC.out hb_)
        clear HC
        have HC := n_
        clear n_
        have n_ := Aside0.mk (Kd.R_below FM.out hb_)
        clear FM
        have FM := n_
        clear n_
        have n_ := Aside0.mk (IY.out.below hb_)
        clear IY
        have IY := n_
        clear n_
        clear hb_
        have zA0_ : W8.cell? ⟨ga, 0, none⟩ = some (.int .i64 g.f0) := (blk_cell KA.out 0).trans rfl
        have zA1_ : W8.cell? ⟨ga, 1, none⟩ = some (.slice A1 g.f1.length c1) := (blk_cell KA.out 1).trans rfl
        have zA2_ : W8.cell? ⟨ga, 2, none⟩ = some (.slice A2 g.f2.length c2) := (blk_cell KA.out 2).trans rfl
        have zA3_ : W8.cell? ⟨ga, 3, none⟩ = some (.slice A3 g.f3.length c3) := (blk_cell KA.out 3).trans rfl
        go_wp2_with fail
        clear zA0_ zA1_ zA2_ zA3_
        refine (count_calls _ g W8 IA.out (by omega)).mono ?_
        rintro e W9 ⟨rfl, hb_⟩
        have n_ := Aside0.mk (blk_below KA.out hb_)
        clear KA
        have KA := n_
        clear n_
        have n_ := Aside0.mk (IA.out.below hb_)
        clear IA
        have IA := n_
        clear n_
        have n_ := Aside0.mk (below_step HB.out hb_)
        clear HB
        have HB := n_
        clear n_
        have n_ := Aside0.mk (Handle_below HH.out hb_)
        clear HH
        have HH := n_
        clear n_
        have n_ := Aside0.mk (Kd.C_below HC.out hb_)
        clear HC
        have HC := n_
        clear n_
        have n_ := Aside0.mk (Kd.R_below FM.out hb_)
        clear FM
        have FM := n_
        clear n_
        have n_ := Aside0.mk (IY.out.below hb_)
        clear IY
        have IY := n_
        clear n_
        have n_ := Aside0.mk (blk_below KY.out hb_)
        clear KY
        have KY := n_
        clear n_
        clear hb_
        have zA0_ : W9.cell? ⟨ga, 0, none⟩ = some (.int .i64 g.f0) := (blk_cell KA.out 0).trans rfl
        have zA1_ : W9.cell? ⟨ga, 1, none⟩ = some (.slice A1 g.f1.length c1) := (blk_cell KA.out 1).trans rfl
        have zA2_ : W9.cell? ⟨ga, 2, none⟩ = some (.slice A2 g.f2.length c2) := (blk_cell KA.out 2).trans rfl
        have zA3_ : W9.cell? ⟨ga, 3, none⟩ = some (.slice A3 g.f3.length c3) := (blk_cell KA.out 3).trans rfl
        have zY0_ : W9.cell? ⟨gy, 0, none⟩ = some (.int .i64 g.f0) := (blk_cell KY.out 0).trans rfl
        have zY1_ : W9.cell? ⟨gy, 1, none⟩ = some (.slice D1 g.f1.length d1) := (blk_cell KY.out 1).trans rfl
        have zY2_ : W9.cell? ⟨gy, 2, none⟩ = some (.slice D2 g.f2.length d2) := (blk_cell KY.out 2).trans rfl
        have zY3_ : W9.cell? ⟨gy, 3, none⟩ = some (.slice D3 g.f3.length d3) := (blk_cell KY.out 3).trans rfl
        rw [← HLC.out, ← HLP.out]
        obtain ⟨P, hP⟩ : ∃ x, x = linesTo L L.length := ⟨_, rfl⟩
        rw [← hP]
        have hPb : P ≤ 2097152 := by have := linesTo_le L L.length; have := HLW.out; omega
        have HP := Aside0.mk hP
        clear hP
        clear zA0_ zA1_ zA2_ zA3_ zY0_ zY1_ zY2_ zY3_
        go_wp2_with fail
        go_loopg [15, 16] L.length (fun kq p i wr => ∃ k : Nat, k + kq = L.length ∧ i = .int .i64 (k : Int) ∧ p = .int .i64 ((linesTo L k : Nat) : Int) ∧ ∃ m, wr = W9.drewN m)
        case atStart => exact ⟨0, by omega, rfl, rfl, 0, rfl⟩
        case round =>
          obtain ⟨k, hk, rfl, rfl, m, rfl⟩ := hrel
          cases gk with
          | zero =>
            have hlt : ¬ ((k : Int) < (L.length : Int)) := by omega
            obtain rfl : k = L.length := by omega
            rw [← HP.out]
            have n_ := Aside0.mk (blk_below KA.out (pw_below_drewN (Below.refl W9.heap.size W9) m))
            clear KA
            have KA := n_
            clear n_
            have n_ := Aside0.mk (IA.out.below (pw_below_drewN (Below.refl W9.heap.size W9) m))
            clear IA
            have IA := n_
            clear n_
            have n_ := Aside0.mk (below_step HB.out (pw_below_drewN (Below.refl W9.heap.size W9) m))
            clear HB
            have HB := n_
            clear n_
            have n_ := Aside0.mk (Handle_below HH.out (pw_below_drewN (Below.refl W9.heap.size W9) m))
            clear HH
            have HH := n_
            clear n_
            have n_ := Aside0.mk (Kd.C_below HC.out (pw_below_drewN (Below.refl W9.heap.size W9) m))
            clear HC
            have HC := n_
            clear n_
            have n_ := Aside0.mk (Kd.R_below FM.out (pw_below_drewN (Below.refl W9.heap.size W9) m))
            clear FM
            have FM := n_
            clear n_
            have n_ := Aside0.mk (IY.out.below (pw_below_drewN (Below.refl W9.heap.size W9) m))
            clear IY
            have IY := n_
            clear n_
            have n_ := Aside0.mk (blk_below KY.out (pw_below_drewN (Below.refl W9.heap.size W9) m))
            clear KY
            have KY := n_
            clear n_
            have zA0_ : (W9.drewN m).cell? ⟨ga, 0, none⟩ = some (.int .i64 g.f0) := (blk_cell KA.out 0).trans rfl
            have zA1_ : (W9.drewN m).cell? ⟨ga, 1, none⟩ = some (.slice A1 g.f1.length c1) := (blk_cell KA.out 1).trans rfl
            have zA2_ : (W9.drewN m).cell? ⟨ga, 2, none⟩ = some (.slice A2 g.f2.length c2) := (blk_cell KA.out 2).trans rfl
            have zA3_ : (W9.drewN m).cell? ⟨ga, 3, none⟩ = some (.slice A3 g.f3.length c3) := (blk_cell KA.out 3).trans rfl
            have zY0_ : (W9.drewN m).cell? ⟨gy, 0, none⟩ = some (.int .i64 g.f0) := (blk_cell KY.out 0).trans rfl
            have zY1_ : (W9.drewN m).cell? ⟨gy, 1, none⟩ = some (.slice D1 g.f1.length d1) := (blk_cell KY.out 1).trans rfl
            have zY2_ : (W9.drewN m).cell? ⟨gy, 2, none⟩ = some (.slice D2 g.f2.length d2) := (blk_cell KY.out 2).trans rfl
            have zY3_ : (W9.drewN m).cell? ⟨gy, 3, none⟩ = some (.slice D3 g.f3.length d3) := (blk_cell KY.out 3).trans rfl
            go_wp2_with fail
            clear zA0_ zA1_ zA2_ zA3_ zY0_ zY1_ zY2_ zY3_
            refine (equal_calls g.bulk _ _ g g (W9.drewN m) IY.out IA.out (Nat.le_refl _) (by omega) (by omega)).mono ?_
            rintro e W10 ⟨rfl, hb_⟩
            rw [eqG_true rfl]
            have n_ := Aside0.mk (blk_below KA.out hb_)
            clear KA
            have KA := n_
            clear n_
            have n_ := Aside0.mk (IA.out.below hb_)
            clear IA
            have IA := n_
            clear n_
            have n_ := Aside0.mk (below_step HB.out hb_)
            clear HB
            have HB := n_
            clear n_
            have n_ := Aside0.mk (Handle_below HH.out hb_)
            clear HH
            have HH := n_
            clear n_
            have n_ := Aside0.mk (Kd.C_below HC.out hb_)
            clear HC
            have HC := n_
            clear n_
            have n_ := Aside0.mk (Kd.R_below FM.out hb_)
            clear FM
            have FM := n_
            clear n_
            have n_ := Aside0.mk (IY.out.below hb_)
            clear IY
            have IY := n_
            clear n_
            have n_ := Aside0.mk (blk_below KY.out hb_)
            clear KY
            have KY := n_
            clear n_
            clear hb_
            have zA0_ : W10.cell? ⟨ga, 0, none⟩ = some (.int .i64 g.f0) := (blk_cell KA.out 0).trans rfl
            have zA1_ : W10.cell? ⟨ga, 1, none⟩ = some (.slice A1 g.f1.length c1) := (blk_cell KA.out 1).trans rfl
            have zA2_ : W10.cell? ⟨ga, 2, none⟩ = some (.slice A2 g.f2.length c2) := (blk_cell KA.out 2).trans rfl
            have zA3_ : W10.cell? ⟨ga, 3, none⟩ = some (.slice A3 g.f3.length c3) := (blk_cell KA.out 3).trans rfl
            have zY0_ : W10.cell? ⟨gy, 0, none⟩ = some (.int .i64 g.f0) := (blk_cell KY.out 0).trans rfl
            have zY1_ : W10.cell? ⟨gy, 1, none⟩ = some (.slice D1 g.f1.length d1) := (blk_cell KY.out 1).trans rfl
            have zY2_ : W10.cell? ⟨gy, 2, none⟩ = some (.slice D2 g.f2.length d2) := (blk_cell KY.out 2).trans rfl
            have zY3_ : W10.cell? ⟨gy, 3, none⟩ = some (.slice D3 g.f3.length d3) := (blk_cell KY.out 3).trans rfl
            go_wp2_with fail
            clear zA0_ zA1_ zA2_ zA3_ zY0_ zY1_ zY2_ zY3_
            refine (points_calls _ g W10 IA.out (by omega)).mono ?_
            rintro e W11 ⟨up, rfl, hr_, hb_⟩
            obtain ⟨AP, cP, rfl⟩ := Kd.R_slice hr_
            clear hr_
            rw [ptsAll_len, ← HLP.out, ← HP.out]
            have n_ := Aside0.mk (blk_below KA.out hb_)
            clear KA
            have KA := n_
            clear n_
            have n_ := Aside0.mk (IA.out.below hb_)
            clear IA
            have IA := n_
            clear n_
            have n_ := Aside0.mk (below_step HB.out hb_)
            clear HB
            have HB := n_
            clear n_
            have n_ := Aside0.mk (Handle_below HH.out hb_)
            clear HH
            have HH := n_
            clear n_
            have n_ := Aside0.mk (Kd.C_below HC.out hb_)
            clear HC
            have HC := n_
            clear n_
            have n_ := Aside0.mk (Kd.R_below FM.out hb_)
            clear FM
            have FM := n_
            clear n_
            have n_ := Aside0.mk (IY.out.below hb_)
            clear IY
            have IY := n_
            clear n_
            have n_ := Aside0.mk (blk_below KY.out hb_)
            clear KY
            have KY := n_
            clear n_
            clear hb_
            go_wp2_with fail
            go_ret
            exact ⟨rfl, HB.out⟩
          | succ kq =>
            have hlt : (k : Int) < (L.length : Int) := by omega
            have hlt1 : k < L.length := by omega
            have k0 : (0 : Int) ≤ (k : Int) := by omega
            obtain ⟨a1, S1, s1, L1, l1, e1, p0, p1, p2, i1, j1, i2, j2⟩ := at_Nd (Kd.R_reads' FM.out).2.2 (k : Int) (by omega) (by omega)
            subst e1
            rw [rd_Nd_at _ _ hlt1, Int.toNat_natCast] at p0 p1 p2
            have hsc := linesTo_succ L k hlt1
            have hsb := linesTo_le L (k + 1)
            have hsw := HLW.out
            obtain ⟨y, hy⟩ : ∃ y, y = (L[k]).f2.length := ⟨_, rfl⟩
            obtain ⟨z, hz⟩ : ∃ z, z = linesTo L k := ⟨_, rfl⟩
            rw [← hy] at p2 hsc
            rw [← hz] at hsc ⊢
            have HSC := Aside0.mk hsc
            have hzy : z + y ≤ 2097152 := by omega
            clear i1 j1 i2 j2 hsb hsw hsc hy hz
            go_wp2_with fail
            go_roundg kq
            case measure => omega
            case rel => exact ⟨k + 1, by omega, by go_num, by rw [HSC.out]; go_num, _, rfl⟩
    · clear GR
      subst hv_
      have HK := Aside0.mk hk_
      have HF := Aside0.mk hf_
      have HBH := Aside0.mk hbh_
      clear hk_ hf_ hbh_
      obtain ⟨cs_, rfl, hM_⟩ := hc_
      obtain ⟨E1, e1, E2, e2, E3, e3, rfl, _⟩ := kGe_open (kSp_K _ ((kSp _).K_of_M hM_))
      have IX := Aside0.mk (show IsG W3 (.agg #[.int .i64 h.f0, .slice E1 h.f1.length e1, .slice E2 h.f2.length e2, .slice E3 h.f3.length e3]) h from IsG.of (kSp_K _ ((kSp _).K_of_M hM_)))
      clear hM_
      clear zA0_ zA1_ zA2_ zA3_
      have zA0_ : (W3.alloc (.cells #[.int .i64 h.f0, .slice E1 h.f1.length e1, .slice E2 h.f2.length e2, .slice E3 h.f3.length e3] 26)).cell? ⟨ga, 0, none⟩ = some (.int .i64 g.f0) := (blk_cell (blk_alloc KA.out _) 0).trans rfl
      have zA1_ : (W3.alloc (.cells #[.int .i64 h.f0, .slice E1 h.f1.length e1, .slice E2 h.f2.length e2, .slice E3 h.f3.length e3] 26)).cell? ⟨ga, 1, none⟩ = some (.slice A1 g.f1.length c1) := (blk_cell (blk_alloc KA.out _) 1).trans rfl
      have zA2_ : (W3.alloc (.cells #[.int .i64 h.f0, .slice E1 h.f1.length e1, .slice E2 h.f2.length e2, .slice E3 h.f3.length e3] 26)).cell? ⟨ga, 2, none⟩ = some (.slice A2 g.f2.length c2) := (blk_cell (blk_alloc KA.out _) 2).trans rfl
      have zA3_ : (W3.alloc (.cells #[.int .i64 h.f0, .slice E1 h.f1.length e1, .slice E2 h.f2.length e2, .slice E3 h.f3.length e3] 26)).cell? ⟨ga, 3, none⟩ = some (.slice A3 g.f3.length c3) := (blk_cell (blk_alloc KA.out _) 3).trans rfl
      go_wp2_with fail
      clear zA0_ zA1_ zA2_ zA3_
      obtain ⟨gx, hgx_⟩ : ∃ x, x = W3.heap.size := ⟨_, rfl⟩
      obtain ⟨W4, hW4_⟩ : ∃ x, x = W3.alloc (.cells #[.int .i64 h.f0, .slice E1 h.f1.length e1, .slice E2 h.f2.length e2, .slice E3 h.f3.length e3] 26) := ⟨_, rfl⟩
      rw [← hW4_, ← hgx_]
      have KX := Aside0.mk (show W4.heap[gx]? = some (.cells #[.int .i64 h.f0, .slice E1 h.f1.length e1, .slice E2 h.f2.length e2, .slice E3 h.f3.length e3] 26 (0, 0)) by rw [hW4_, hgx_]; exact World.alloc_heap_new _ _)
      have hb_ : Below W3.heap.size W3 W4 := by rw [hW4_]; exact below_alloc (Below.refl _ _) _
      clear hW4_ hgx_
      have n_ := Aside0.mk (blk_below KA.out hb_)
      clear KA
      have KA := n_
      clear n_
      have n_ := Aside0.mk (IA.out.below hb_)
      clear IA
      have IA := n_
      clear n_
      have n_ := Aside0.mk (below_step HB.out hb_)
      clear HB
      have HB := n_
      clear n_
      have n_ := Aside0.mk (Handle_below HH.out hb_)
      clear HH
      have HH := n_
      clear n_
      have n_ := Aside0.mk (Kd.C_below HC.out hb_)
      clear HC
      have HC := n_
      clear n_
      have n_ := Aside0.mk (IX.out.below hb_)
      clear IX
      have IX := n_
      clear n_
      clear hb_
      refine (flat_calls _ h W4 IX.out (by have := HBH.out; have := HWL.out; omega)).mono ?_
      rintro e W5 ⟨ul, ue, rfl, hf_, hb_⟩
      obtain ⟨hr_, he_⟩ := hf_.got
      rw [HF.out] at hr_
      rw [HK.out] at he_
      obtain rfl : ue = .nilIface := he_
      obtain ⟨AU, cU, rfl⟩ := Kd.R_slice hr_
      have FU := Aside0.mk hr_
      clear hr_ hf_
      have n_ := Aside0.mk (blk_below KA.out hb_)
      clear KA
      have KA := n_
      clear n_
      have n_ := Aside0.mk (IA.out.below hb_)
      clear IA
      have IA := n_
      clear n_
      have n_ := Aside0.mk (below_step HB.out hb_)
      clear HB
      have HB := n_
      clear n_
      have n_ := Aside0.mk (Handle_below HH.out hb_)
      clear HH
      have HH := n_
      clear n_
      have n_ := Aside0.mk (Kd.C_below HC.out hb_)
      clear HC
      have HC := n_
      clear n_
      have n_ := Aside0.mk (IX.out.below hb_)
      clear IX
      have IX := n_
      clear n_
      have n_ := Aside0.mk (blk_below KX.out hb_)
      clear KX
      have KX := n_
      clear n_
      clear hb_
      have zA0_ : W5.cell? ⟨ga, 0, none⟩ = some (.int .i64 g.f0) := (blk_cell KA.out 0).trans rfl
      have zA1_ : W5.cell? ⟨ga, 1, none⟩ = some (.slice A1 g.f1.length c1) := (blk_cell KA.out 1).trans rfl
      have zA2_ : W5.cell? ⟨ga, 2, none⟩ = some (.slice A2 g.f2.length c2) := (blk_cell KA.out 2).trans rfl
      have zA3_ : W5.cell? ⟨ga, 3, none⟩ = some (.slice A3 g.f3.length c3) := (blk_cell KA.out 3).trans rfl
      have zX0_ : W5.cell? ⟨gx, 0, none⟩ = some (.int .i64 h.f0) := (blk_cell KX.out 0).trans rfl
      have zX1_ : W5.cell? ⟨gx, 1, none⟩ = some (.slice E1 h.f1.length e1) := (blk_cell KX.out 1).trans rfl
      have zX2_ : W5.cell? ⟨gx, 2, none⟩ = some (.slice E2 h.f2.length e2) := (blk_cell KX.out 2).trans rfl
      have zX3_ : W5.cell? ⟨gx, 3, none⟩ = some (.slice E3 h.f3.length e3) := (blk_cell KX.out 3).trans rfl
      go_wp2_with fail
      refine (eqNodes_calls AU A cU c l W5 (Kd.R_reads' FU.out).2.2 HC.out (by have := HWL.out; have := nds_len l; omega) (fun x hx => by have := HWL.out; have := nds_mem hx; omega)).mono ?_
      rintro e w9 ⟨rfl, nb, rfl⟩
      clear zA0_ zA1_ zA2_ zA3_ zX0_ zX1_ zX2_ zX3_
      have n_ := Aside0.mk (blk_below KA.out (pw_below_drewN (Below.refl W5.heap.size W5) nb))
      clear KA
      have KA := n_
      clear n_
      have n_ := Aside0.mk (IA.out.below (pw_below_drewN (Below.refl W5.heap.size W5) nb))
      clear IA
      have IA := n_
      clear n_
      have n_ := Aside0.mk (below_step HB.out (pw_below_drewN (Below.refl W5.heap.size W5) nb))
      clear HB
      have HB := n_
      clear n_
      have n_ := Aside0.mk (Handle_below HH.out (pw_below_drewN (Below.refl W5.heap.size W5) nb))
      clear HH
      have HH := n_
      clear n_
      have n_ := Aside0.mk (Kd.C_below HC.out (pw_below_drewN (Below.refl W5.heap.size W5) nb))
      clear HC
      have HC := n_
      clear n_
      have n_ := Aside0.mk (IX.out.below (pw_below_drewN (Below.refl W5.heap.size W5) nb))
      clear IX
      have IX := n_
      clear n_
      have n_ := Aside0.mk (blk_below KX.out (pw_below_drewN (Below.refl W5.heap.size W5) nb))
      clear KX
      have KX := n_
      clear n_
      have n_ := Aside0.mk (Kd.R_below FU.out (pw_below_drewN (Below.refl W5.heap.size W5) nb))
      clear FU
      have FU := n_
      clear n_
      have zA0_ : (W5.drewN nb).cell? ⟨ga, 0, none⟩ = some (.int .i64 g.f0) := (blk_cell KA.out 0).trans rfl
      have zA1_ : (W5.drewN nb).cell? ⟨ga, 1, none⟩ = some (.slice A1 g.f1.length c1) := (blk_cell KA.out 1).trans rfl
      have zA2_ : (W5.drewN nb).cell? ⟨ga, 2, none⟩ = some (.slice A2 g.f2.length c2) := (blk_cell KA.out 2).trans rfl
      have zA3_ : (W5.drewN nb).cell? ⟨ga, 3, none⟩ = some (.slice A3 g.f3.length c3) := (blk_cell KA.out 3).trans rfl
      have zX0_ : (W5.drewN nb).cell? ⟨gx, 0, none⟩ = some (.int .i64 h.f0) := (blk_cell KX.out 0).trans rfl
      have zX1_ : (W5.drewN nb).cell? ⟨gx, 1, none⟩ = some (.slice E1 h.f1.length e1) := (blk_cell KX.out 1).trans rfl
      have zX2_ : (W5.drewN nb).cell? ⟨gx, 2, none⟩ = some (.slice E2 h.f2.length e2) := (blk_cell KX.out 2).trans rfl
      have zX3_ : (W5.drewN nb).cell? ⟨gx, 3, none⟩ = some (.slice E3 h.f3.length e3) := (blk_cell KX.out 3).trans rfl
      go_wp2_with fail
      clear zA0_ zA1_ zA2_ zA3_ zX0_ zX1_ zX2_ zX3_
      refine (check_calls _ h (W5.drewN nb) IX.out (by have := HBH.out; have := HWL.out; omega)).mono ?_
      rintro e W6 ⟨ue2, rfl, he_, hb_⟩
      rw [HK.out] at he_
      obtain rfl : ue2 = .nilIface := he_
      have n_ := Aside0.mk (blk_below KA.out hb_)
      clear KA
      have KA := n_
      clear n_
      have n_ := Aside0.mk (IA.out.below hb_)
      clear IA
      have IA := n_
      clear n_
      have n_ := Aside0.mk (below_step HB.out hb_)
      clear HB
      have HB := n_
      clear n_
      have n_ := Aside0.mk (Handle_below HH.out hb_)
      clear HH
      have HH := n_
      clear n_
      have n_ := Aside0.mk (Kd.C_below HC.out hb_)
      clear HC
      have HC := n_
      clear n_
      have n_ := Aside0.mk (IX.out.below hb_)
      clear IX
      have IX := n_
      clear n_
      have n_ := Aside0.mk (blk_below KX.out hb_)
      clear KX
      have KX := n_
      clear n_
      have n_ := Aside0.mk (Kd.R_below FU.out hb_)
      clear FU
      have FU := n_
      clear n_
      clear hb_
      have zA0_ : W6.cell? ⟨ga, 0, none⟩ = some (.int .i64 g.f0) := (blk_cell KA.out 0).trans rfl
      have zA1_ : W6.cell? ⟨ga, 1, none⟩ = some (.slice A1 g.f1.length c1) := (blk_cell KA.out 1).trans rfl
      have zA2_ : W6.cell? ⟨ga, 2, none⟩ = some (.slice A2 g.f2.length c2) := (blk_cell KA.out 2).trans rfl
      have zA3_ : W6.cell? ⟨ga, 3, none⟩ = some (.slice A3 g.f3.length c3) := (blk_cell KA.out 3).trans rfl
      go_upto_region 8 with fail
      clear zA0_ zA1_ zA2_ zA3_
      cases hq : checkR g with
      | some ee =>
        obtain ⟨ea2, ec2⟩ := ee
        have HQ := Aside0.mk hq
        clear hq
        have zA0_ : W6.cell? ⟨ga, 0, none⟩ = some (.int .i64 g.f0) := (blk_cell KA.out 0).trans rfl
        have zA1_ : W6.cell? ⟨ga, 1, none⟩ = some (.slice A1 g.f1.length c1) := (blk_cell KA.out 1).trans rfl
        have zA2_ : W6.cell? ⟨ga, 2, none⟩ = some (.slice A2 g.f2.length c2) := (blk_cell KA.out 2).trans rfl
        have zA3_ : W6.cell? ⟨ga, 3, none⟩ = some (.slice A3 g.f3.length c3) := (blk_cell KA.out 3).trans rfl
        go_wp2_with fail
        clear zA0_ zA1_ zA2_ zA3_
        refine (flat_calls _ g W6 IA.out (by omega)).mono ?_
        rintro e W7 ⟨ul, ue, rfl, hf_, hb_⟩
        obtain ⟨hr_, he_⟩ := hf_.got
        have hL0 : flatL g = [] := by unfold flatL; rw [HQ.out]
        rw [hL0] at hr_
        rw [HQ.out] at he_
        obtain ⟨AU, cU, rfl⟩ := Kd.R_slice hr_
        have EE := Aside0.mk he_
        obtain ⟨gf2, rfl, hf2_⟩ := he_
        clear hr_ hf_ hf2_ hL0
        have n_ := Aside0.mk (blk_below KA.out hb_)
        clear KA
        have KA := n_
        clear n_
        have n_ := Aside0.mk (IA.out.below hb_)
        clear IA
        have IA := n_
        clear n_
        have n_ := Aside0.mk (below_step HB.out hb_)
        clear HB
        have HB := n_
        clear n_
        have n_ := Aside0.mk (Handle_below HH.out hb_)
        clear HH
        have HH := n_
        clear n_
        have n_ := Aside0.mk (Kd.C_below HC.out hb_)
        clear HC
        have HC := n_
        clear n_
        have n_ := Aside0.mk (IX.out.below hb_)
        clear IX
        have IX := n_
        clear n_
        have n_ := Aside0.mk (blk_below KX.out hb_)
        clear KX
        have KX := n_
        clear n_
        have n_ := Aside0.mk (Kd.R_below FU.out hb_)
        clear FU
        have FU := n_
        clear n_
        clear hb_
        have zA0_ : W7.cell? ⟨ga, 0, none⟩ = some (.int .i64 g.f0) := (blk_cell KA.out 0).trans rfl
        have zA1_ : W7.cell? ⟨ga, 1, none⟩ = some (.slice A1 g.f1.length c1) := (blk_cell KA.out 1).trans rfl
        have zA2_ : W7.cell? ⟨ga, 2, none⟩ = some (.slice A2 g.f2.length c2) := (blk_cell KA.out 2).trans rfl
        have zA3_ : W7.cell? ⟨ga, 3, none⟩ = some (.slice A3 g.f3.length c3) := (blk_cell KA.out 3).trans rfl
        go_wp2_with fail
        clear zA0_ zA1_ zA2_ zA3_
        refine (check_calls _ g W7 IA.out (by omega)).mono ?_
        rintro e W8 ⟨ue2, rfl, he_, hb_⟩
        rw [HQ.out] at he_
        have EC := Aside0.mk he_
        obtain ⟨gf3, rfl, hf3_⟩ := he_
        clear hf3_
        have n_ := Aside0.mk (blk_below KA.out hb_)
        clear KA
        have KA := n_
        clear n_
        have n_ := Aside0.mk (IA.out.below hb_)
        clear IA
        have IA := n_
        clear n_
        have n_ := Aside0.mk (below_step HB.out hb_)
        clear HB
        have HB := n_
        clear n_
        have n_ := Aside0.mk (Handle_below HH.out hb_)
        clear HH
        have HH := n_
        clear n_
        have n_ := Aside0.mk (Kd.C_below HC.out hb_)
        clear HC
        have HC := n_
        clear n_
        have n_ := Aside0.mk (IX.out.below hb_)
        clear IX
        have IX := n_
        clear n_
        have n_ := Aside0.mk (blk_below KX.out hb_)
        clear KX
        have KX := n_
        clear n_
        have n_ := Aside0.mk (Kd.R_below FU.out hb_)
        clear FU
        have FU := n_
        clear n_
        have n_ := Aside0.mk (EE.out.below hb_)
        clear EE
        have EE := n_
        clear n_
        clear hb_
        have zA0_ : W8.cell? ⟨ga, 0, none⟩ = some (.int .i64 g.f0) := (blk_cell KA.out 0).trans rfl
        have zA1_ : W8.cell? ⟨ga, 1, none⟩ = some (.slice A1 g.f1.length c1) := (blk_cell KA.out 1).trans rfl
        have zA2_ : W8.cell? ⟨ga, 2, none⟩ = some (.slice A2 g.f2.length c2) := (blk_cell KA.out 2).trans rfl
        have zA3_ : W8.cell? ⟨ga, 3, none⟩ = some (.slice A3 g.f3.length c3) := (blk_cell KA.out 3).trans rfl
        go_wp2_with fail
        clear zA0_ zA1_ zA2_ zA3_
        refine (Code_calls _ _ W8 HH.out EE.out).mono ?_
        rintro e W9 ⟨rfl, hb_⟩
        have n_ := Aside0.mk (blk_below KA.out hb_)
        clear KA
        have KA := n_
        clear n_
        have n_ := Aside0.mk (IA.out.below hb_)
        clear IA
        have IA := n_
        clear n_
        have n_ := Aside0.mk (below_step HB.out hb_)
        clear HB
        have HB := n_
        clear n_
        have n_ := Aside0.mk (Handle_below HH.out hb_)
        clear HH
        have HH := n_
        clear n_
        have n_ := Aside0.mk (Kd.C_below HC.out hb_)
        clear HC
        have HC := n_
        clear n_
        have n_ := Aside0.mk (IX.out.below hb_)
        clear IX
        have IX := n_
        clear n_
        have n_ := Aside0.mk (blk_below KX.out hb_)
        clear KX
        have KX := n_
        clear n_
        have n_ := Aside0.mk (Kd.R_below FU.out hb_)
        clear FU
        have FU := n_
        clear n_
        have n_ := Aside0.mk (EE.out.below hb_)
        clear EE
        have EE := n_
        clear n_
        have n_ := Aside0.mk (EC.out.below hb_)
        clear EC
        have EC := n_
        clear n_
        clear hb_
        go_wp2_with fail
        refine (Code_calls _ _ W9 HH.out EC.out).mono ?_
        rintro e W10 ⟨rfl, hb_⟩
        have n_ := Aside0.mk (blk_below KA.out hb_)
        clear KA
        have KA := n_
        clear n_
        have n_ := Aside0.mk (IA.out.below hb_)
        clear IA
        have IA := n_
        clear n_
        have n_ := Aside0.mk (below_step HB.out hb_)
        clear HB
        have HB := n_
        clear n_
        have n_ := Aside0.mk (Handle_below HH.out hb_)
        clear HH
        have HH := n_
        clear n_
        have n_ := Aside0.mk (Kd.C_below HC.out hb_)
        clear HC
        have HC := n_
        clear n_
        have n_ := Aside0.mk (IX.out.below hb_)
        clear IX
        have IX := n_
        clear n_
        have n_ := Aside0.mk (blk_below KX.out hb_)
        clear KX
        have KX := n_
        clear n_
        have n_ := Aside0.mk (Kd.R_below FU.out hb_)
        clear FU
        have FU := n_
        clear n_
        have n_ := Aside0.mk (EE.out.below hb_)
        clear EE
        have EE := n_
        clear n_
        have n_ := Aside0.mk (EC.out.below hb_)
        clear EC
        have EC := n_
        clear n_
        clear hb_
        go_wp2_with fail
        refine (Place_calls _ _ W10 HH.out EE.out).mono ?_
        rintro e W11 ⟨rfl, hb_⟩
        have n_ := Aside0.mk (blk_below KA.out hb_)
        clear KA
        have KA := n_
        clear n_
        have n_ := Aside0.mk (IA.out.below hb_)
        clear IA
        have IA := n_
        clear n_
        have n_ := Aside0.mk (below_step HB.out hb_)
        clear HB
        have HB := n_
        clear n_
        have n_ := Aside0.mk (Handle_below HH.out hb_)
        clear HH
        have HH := n_
        clear n_
        have n_ := Aside0.mk (Kd.C_below HC.out hb_)
        clear HC
        have HC := n_
        clear n_
        have n_ := Aside0.mk (IX.out.below hb_)
        clear IX
        have IX := n_
        clear n_
        have n_ := Aside0.mk (blk_below KX.out hb_)
        clear KX
        have KX := n_
        clear n_
        have n_ := Aside0.mk (Kd.R_below FU.out hb_)
        clear FU
        have FU := n_
        clear n_
        have n_ := Aside0.mk (EE.out.below hb_)
        clear EE
        have EE := n_
        clear n_
        have n_ := Aside0.mk (EC.out.below hb_)
        clear EC
        have EC := n_
        clear n_
        clear hb_
        go_wp2_with fail
        refine (Place_calls _ _ W11 HH.out EC.out).mono ?_
        rintro e W12 ⟨rfl, hb_⟩
        have n_ := Aside0.mk (blk_below KA.out hb_)
        clear KA
        have KA := n_
        clear n_
        have n_ := Aside0.mk (IA.out.below hb_)
        clear IA
        have IA := n_
        clear n_
        have n_ := Aside0.mk (below_step HB.out hb_)
        clear HB
        have HB := n_
        clear n_
        have n_ := Aside0.mk (Handle_below HH.out hb_)
        clear HH
        have HH := n_
        clear n_
        have n_ := Aside0.mk (Kd.C_below HC.out hb_)
        clear HC
        have HC := n_
        clear n_
        have n_ := Aside0.mk (IX.out.below hb_)
        clear IX
        have IX := n_
        clear n_
        have n_ := Aside0.mk (blk_below KX.out hb_)
        clear KX
        have KX := n_
        clear n_
        have n_ := Aside0.mk (Kd.R_below FU.out hb_)
        clear FU
        have FU := n_
        clear n_
        have n_ := Aside0.mk (EE.out.below hb_)
        clear EE
        have EE := n_
        clear n_
        have n_ := Aside0.mk (EC.out.below hb_)
        clear EC
        have EC := n_
        clear n_
        clear hb_
        go_wp2_with fail
        go_ret
        exact ⟨rfl, HB.out⟩
      | none =>
        have HQ := Aside0.mk hq
        clear hq
        obtain ⟨L, hL⟩ : ∃ x, x = flatL g := ⟨_, rfl⟩
        have HLN := Aside0.mk (show L = flatN g by rw [hL, flatL_canon HQ.out])
        have HLW := Aside0.mk (show ndsW L ≤ 2097152 by have := ndsW_flat g; rw [hL, flatL_canon HQ.out]; omega)
        have HLP := Aside0.mk (show linesTo L L.length = ptsOf (nodes g 1 0) by rw [hL]; exact linesTo_all HQ.out)
        have HLC := Aside0.mk (show L.length = (nodes g 1 0).length by rw [hL]; exact flatL_nodes HQ.out)
        have hLl : L.length ≤ 2097152 := by have := flatL_len g; rw [hL]; omega
        have HL := Aside0.mk hL
        clear hL
        have zA0_ : W6.cell? ⟨ga, 0, none⟩ = some (.int .i64 g.f0) := (blk_cell KA.out 0).trans rfl
        have zA1_ : W6.cell? ⟨ga, 1, none⟩ = some (.slice A1 g.f1.length c1) := (blk_cell KA.out 1).trans rfl
        have zA2_ : W6.cell? ⟨ga, 2, none⟩ = some (.slice A2 g.f2.length c2) := (blk_cell KA.out 2).trans rfl
        have zA3_ : W6.cell? ⟨ga, 3, none⟩ = some (.slice A3 g.f3.length c3) := (blk_cell KA.out 3).trans rfl
        go_wp2_with fail
        clear zA0_ zA1_ zA2_ zA3_
        refine (flat_calls _ g W6 IA.out (by omega)).mono ?_
        rintro e W7 ⟨ul, ue, rfl, hf_, hb_⟩
        obtain ⟨hr_, he_⟩ := hf_.got
        rw [← HL.out] at hr_
        rw [HQ.out] at he_
        obtain rfl : ue = .nilIface := he_
        obtain ⟨AM, cM, rfl⟩ := Kd.R_slice hr_
        have FM := Aside0.mk hr_
        clear hr_ hf_
        have n_ := Aside0.mk (blk_below KA.out hb_)
        clear KA
        have KA := n_
        clear n_
        have n_ := Aside0.mk (IA.out.below hb_)
        clear IA
        have IA := n_
        clear n_
        have n_ := Aside0.mk (below_step HB.out hb_)
        clear HB
        have HB := n_
        clear n_
        have n_ := Aside0.mk (Handle_below HH.out hb_)
        clear HH
        have HH := n_
        clear n_
        have n_ := Aside0.mk (Kd.C_below HC.out hb_)
        clear HC
        have HC := n_
        clear n_
        have n_ := Aside0.mk (IX.out.below hb_)
        clear IX
        have IX := n_
        clear n_
        have n_ := Aside0.mk (blk_below KX.out hb_)
        clear KX
        have KX := n_
        clear n_
        have n_ := Aside0.mk (Kd.R_below FU.out hb_)
        clear FU
        have FU := n_
        clear n_
        clear hb_
        have zA0_ : W7.cell? ⟨ga, 0, none⟩ = some (.int .i64 g.f0) := (blk_cell KA.out 0).trans rfl
        have zA1_ : W7.cell? ⟨ga, 1, none⟩ = some (.slice A1 g.f1.length c1) := (blk_cell KA.out 1).trans rfl
        have zA2_ : W7.cell? ⟨ga, 2, none⟩ = some (.slice A2 g.f2.length c2) := (blk_cell KA.out 2).trans rfl
        have zA3_ : W7.cell? ⟨ga, 3, none⟩ = some (.slice A3 g.f3.length c3) := (blk_cell KA.out 3).trans rfl
        go_wp2_with fail
        clear zA0_ zA1_ zA2_ zA3_
        refine (check_calls _ g W7 IA.out (by omega)).mono ?_
        rintro e W8 ⟨ue2, rfl, he_, hb_⟩
        rw [HQ.out] at he_
        obtain rfl : ue2 = .nilIface := he_
        have n_ := Aside0.mk (blk_below KA.out hb_)
        clear KA
        have KA := n_
        clear n_
        have n_ := Aside0.mk (IA.out.below hb_)
        clear IA
        have IA := n_
        clear n_
        have n_ := Aside0.mk (below_step HB.out hb_)
        clear HB
        have HB := n_
        clear n_
        have n_ := Aside0.mk (Handle_below HH.out hb_)
        clear HH
        have HH := n_
        clear n_
        have n_ := Aside0.mk (Kd.C_below HC.out hb_)
        clear HC
        have HC := n_
        clear n_
        have n_ := Aside0.mk (IX.out.below hb_)
        clear IX
        have IX := n_
        clear n_
        have n_ := Aside0.mk (blk_below KX.out hb_)
        clear KX
        have KX := n_
        clear n_
        have n_ := Aside0.mk (Kd.R_below FU.out hb_)
        clear FU
        have FU := n_
        clear n_
        have n_ := Aside0.mk (Kd.R_below FM.out hb_)
        clear FM
        have FM := n_
        clear n_
        clear hb_
        have zA0_ : W8.cell? ⟨ga, 0, none⟩ = some (.int .i64 g.f0) := (blk_cell KA.out 0).trans rfl
        have zA1_ : W8.cell? ⟨ga, 1, none⟩ = some (.slice A1 g.f1.length c1) := (blk_cell KA.out 1).trans rfl
        have zA2_ : W8.cell? ⟨ga, 2, none⟩ = some (.slice A2 g.f2.length c2) := (blk_cell KA.out 2).trans rfl
        have zA3_ : W8.cell? ⟨ga, 3, none⟩ = some (.slice A3 g.f3.length c3) := (blk_cell KA.out 3).trans rfl
        go_wp2_with fail
        clear zA0_ zA1_ zA2_ zA3_
        refine (grow_calls AM cM L W8 (Kd.R_reads' FM.out).2.2 (Kd.R_reads' FM.out).2.1 HLW.out).mono ?_
        rintro e W9 ⟨u2, ev2, rfl, hr_, hb_⟩
        rw [HLN.out] at hr_
        obtain ⟨hc_, hv_⟩ := grown_back HQ.out hr_
        subst hv_
        obtain ⟨cs_, rfl, hM_⟩ := hc_
        obtain ⟨D1, d1, D2, d2, D3, d3, rfl, _⟩ := kGe_open (kSp_K _ ((kSp _).K_of_M hM_))
        have IY := Aside0.mk (show IsG W9 (.agg #[.int .i64 g.f0, .slice D1 g.f1.length d1, .slice D2 g.f2.length d2, .slice D3 g.f3.length d3]) g from IsG.of (kSp_K _ ((kSp _).K_of_M hM_)))
        clear hM_ hr_
        have n_ := Aside0.mk (blk_below KA.out hb_)
        clear KA
        have KA := n_
        clear n_
        have n_ := Aside0.mk (IA.out.below hb_)
        clear IA
        have IA := n_
        clear n_
        have n_ := Aside0.mk (below_step HB.out hb_)
        clear HB
        have HB := n_
        clear n_
        have n_ := Aside0.mk (Handle_below HH.out hb_)
        clear HH
        have HH := n_
        clear n_
        have n_ := Aside0.mk (Kd.C_below HC.out hb_)
        clear HC
        have HC := n_
        clear n_
        have n_ := Aside0.mk (IX.out.below hb_)
        clear IX
        have IX := n_
        clear n_
        have n_ := Aside0.mk (blk_below KX.out hb_)
        clear KX
        have KX := n_
        clear n_
        have n_ := Aside0.mk (Kd.R_below FU.out hb_)
        clear FU
        have FU := n_
        clear n_
        have n_ := Aside0.mk (Kd.R_below FM.out hb_)
        clear FM
        have FM := n_
        clear n_
        clear hb_
        have zA0_ : (W9.alloc (.cells #[.int .i64 g.f0, .slice D1 g.f1.length d1, .slice D2 g.f2.length d2, .slice D3 g.f3.length d3] 26)).cell? ⟨ga, 0, none⟩ = some (.int .i64 g.f0) := (blk_cell (blk_alloc KA.out _) 0).trans rfl
        have zA1_ : (W9.alloc (.cells #[.int .i64 g.f0, .slice D1 g.f1.length d1, .slice D2 g.f2.length d2, .slice D3 g.f3.length d3] 26)).cell? ⟨ga, 1, none⟩ = some (.slice A1 g.f1.length c1) := (blk_cell (blk_alloc KA.out _) 1).trans rfl
        have zA2_ : (W9.alloc (.cells #[.int .i64 g.f0, .slice D1 g.f1.length d1, .slice D2 g.f2.length d2, .slice D3 g.f3.length d3] 26)).cell? ⟨ga, 2, none⟩ = some (.slice A2 g.f2.length c2) := (blk_cell (blk_alloc KA.out _) 2).trans rfl
        have zA3_ : (W9.alloc (.cells #[.int .i64 g.f0, .slice D1 g.f1.length d1, .slice D2 g.f2.length d2, .slice D3 g.f3.length d3] 26)).cell? ⟨ga, 3, none⟩ = some (.slice A3 g.f3.length c3) := (blk_cell (blk_alloc KA.out _) 3).trans rfl
        go_upto_region 13 with fail
        clear zA0_ zA1_ zA2_ zA3_
        obtain ⟨gy, hgy_⟩ : ∃ x, x = W9.heap.size := ⟨_, rfl⟩
        obtain ⟨W10, hW10_⟩ : ∃ x, x = W9.alloc (.cells #[.int .i64 g.f0, .slice D1 g.f1.length d1, .slice D2 g.f2.length d2, .slice D3 g.f3.length d3] 26) := ⟨_, rfl⟩
        rw [← hW10_, ← hgy_]
        have KY := Aside0.mk (show W10.heap[gy]? = some (.cells #[.int .i64 g.f0, .slice D1 g.f1.length d1, .slice D2 g.f2.length d2, .slice D3 g.f3.length d3] 26 (0, 0)) by rw [hW10_, hgy_]; exact World.alloc_heap_new _ _)
        have hb_ : Below W9.heap.size W9 W10 := by rw [hW10_]; exact below_alloc (Below.refl _ _) _
        clear hW10_ hgy_
        have n_ := Aside0.mk (blk_below KA.out hb_)
        clear KA
        have KA := n_
        clear n_
        have n_ := Aside0.mk (IA.out.below hb_)
        clear IA
        have IA := n_
        clear n_
        have n_ := Aside0.mk (below_step HB.out hb_)
        clear HB
        have HB := n_
        clear n_
        have n_ := Aside0.mk (Handle_below HH.out hb_)
        clear HH
        have HH := n_
        clear n_
        have n_ := Aside0.mk (Kd.C_below HC.out hb_)
        clear HC
        have HC := n_
        clear n_
        have n_ := Aside0.mk (IX.out.below hb_)
        clear IX
        have IX := n_
        clear n_
        have n_ := Aside0.mk (blk_below KX.out hb_)
        clear KX
        have KX := n_
        clear n_
        have n_ := Aside0.mk (Kd.R_below FU.out hb_)
        clear FU
        have FU := n_
        clear n_
        have n_ := Aside0.mk (Kd.R_below FM.out hb_)
        clear FM
        have FM := n_
        clear n_
        have n_ := Aside0.mk (IY.out.below hb_)
        clear IY
        have IY := n_
        clear n_
        clear hb_
        have zA0_ : W10.cell? ⟨ga, 0, none⟩ = some (.int .i64 g.f0) := (blk_cell KA.out 0).trans rfl
        have zA1_ : W10.cell? ⟨ga, 1, none⟩ = some (.slice A1 g.f1.length c1) := (blk_cell KA.out 1).trans rfl
        have zA2_ : W10.cell? ⟨ga, 2, none⟩ = some (.slice A2 g.f2.length c2) := (blk_cell KA.out 2).trans rfl
        have zA3_ : W10.cell? ⟨ga, 3, none⟩ = some (.slice A3 g.f3.length c3) := (blk_cell KA.out 3).trans rfl
        go_wp2_with fail
        clear zA0_ zA1_ zA2_ zA3_
        refine (count_calls _ g W10 IA.out (by omega)).mono ?_
        rintro e W11 ⟨rfl, hb_⟩
        have n_ := Aside0.mk (blk_below KA.out hb_)
        clear KA
        have KA := n_
        clear n_
        have n_ := Aside0.mk (IA.out.below hb_)
        clear IA
        have IA := n_
        clear n_
        have n_ := Aside0.mk (below_step HB.out hb_)
        clear HB
        have HB := n_
        clear n_
        have n_ := Aside0.mk (Handle_below HH.out hb_)
        clear HH
        have HH := n_
        clear n_
        have n_ := Aside0.mk (Kd.C_below HC.out hb_)
        clear HC
        have HC := n_
        clear n_
        have n_ := Aside0.mk (IX.out.below hb_)
        clear IX
        have IX := n_
        clear n_
        have n_ := Aside0.mk (blk_below KX.out hb_)
        clear KX
        have KX := n_
        clear n_
        have n_ := Aside0.mk (Kd.R_below FU.out hb_)
        clear FU
        have FU := n_
        clear n_
        have n_ := Aside0.mk (Kd.R_below FM.out hb_)
        clear FM
        have FM := n_
        clear n_
        have n_ := Aside0.mk (IY.out.below hb_)
        clear IY
        have IY := n_
        clear n_
        have n_ := Aside0.mk (blk_below KY.out hb_)
        clear KY
        have KY := n_
        clear n_
        clear hb_
        have zA0_ : W11.cell? ⟨ga, 0, none⟩ = some (.int .i64 g.f0) := (blk_cell KA.out 0).trans rfl
        have zA1_ : W11.cell? ⟨ga, 1, none⟩ = some (.slice A1 g.f1.length c1) := (blk_cell KA.out 1).trans rfl
        have zA2_ : W11.cell? ⟨ga, 2, none⟩ = some (.slice A2 g.f2.length c2) := (blk_cell KA.out 2).trans rfl
        have zA3_ : W11.cell? ⟨ga, 3, none⟩ = some (.slice A3 g.f3.length c3) := (blk_cell KA.out 3).trans rfl
        have zY0_ : W11.cell? ⟨gy, 0, none⟩ = some (.int .i64 g.f0) := (blk_cell KY.out 0).trans rfl
        have zY1_ : W11.cell? ⟨gy, 1, none⟩ = some (.slice D1 g.f1.length d1) := (blk_cell KY.out 1).trans rfl
        have zY2_ : W11.cell? ⟨gy, 2, none⟩ = some (.slice D2 g.f2.length d2) := (blk_cell KY.out 2).trans rfl
        have zY3_ : W11.cell? ⟨gy, 3, none⟩ = some (.slice D3 g.f3.length d3) := (blk_cell KY.out 3).trans rfl
        rw [← HLC.out, ← HLP.out]
        obtain ⟨P, hP⟩ : ∃ x, x = linesTo L L.length := ⟨_, rfl⟩
        rw [← hP]
        have hPb : P ≤ 2097152 := by have := linesTo_le L L.length; have := HLW.out; omega
        have HP := Aside0.mk hP
        clear hP
        clear zA0_ zA1_ zA2_ zA3_ zY0_ zY1_ zY2_ zY3_
        go_wp2_with fail
        go_loopg [15, 16] L.length (fun kq p i wr => ∃ k : Nat, k + kq = L.length ∧ i = .int .i64 (k : Int) ∧ p = .int .i64 ((linesTo L k : Nat) : Int) ∧ ∃ m, wr = W11.drewN m)
        case atStart => exact ⟨0, by omega, rfl, rfl, 0, rfl⟩
        case round =>
          obtain ⟨k, hk, rfl, rfl, m, rfl⟩ := hrel
          cases gk with
          | zero =>
            have hlt : ¬ ((k : Int) < (L.length : Int)) := by omega
            obtain rfl : k = L.length := by omega
            rw [← HP.out]
            have n_ := Aside0.mk (blk_below KA.out (pw_below_drewN (Below.refl W11.heap.size W11) m))
            clear KA
            have KA := n_
            clear n_
            have n_ := Aside0.mk (IA.out.below (pw_below_drewN (Below.refl W11.heap.size W11) m))
            clear IA
            have IA := n_
            clear n_
            have n_ := Aside0.mk (below_step HB.out (pw_below_drewN (Below.refl W11.heap.size W11) m))
            clear HB
            have HB := n_
            clear n_
            have n_ := Aside0.mk (Handle_below HH.out (pw_below_drewN (Below.refl W11.heap.size W11) m))
            clear HH
            have HH := n_
            clear n_
            have n_ := Aside0.mk (Kd.C_below HC.out (pw_below_drewN (Below.refl W11.heap.size W11) m))
            clear HC
            have HC := n_
            clear n_
            have n_ := Aside0.mk (IX.out.below (pw_below_drewN (Below.refl W11.heap.size W11) m))
            clear IX
            have IX := n_
            clear n_
            have n_ := Aside0.mk (blk_below KX.out (pw_below_drewN (Below.refl W11.heap.size W11) m))
            clear KX
            have KX := n_
            clear n_
            have n_ := Aside0.mk (Kd.R_below FU.out (pw_below_drewN (Below.refl W11.heap.size W11) m))
            clear FU
            have FU := n_
            clear n_
            have n_ := Aside0.mk (Kd.R_below FM.out (pw_below_drewN (Below.refl W11.heap.size W11) m))
            clear FM
            have FM := n_
            clear n_
            have n_ := Aside0.mk (IY.out.below (pw_below_drewN (Below.refl W11.heap.size W11) m))
            clear IY
            have IY := n_
            clear n_
            have n_ := Aside0.mk (blk_below KY.out (pw_below_drewN (Below.refl W11.heap.size W11) m))
            clear KY
            have KY := n_
            clear n_
            have zA0_ : (W11.drewN m).cell? ⟨ga, 0, none⟩ = some (.int .i64 g.f0) := (blk_cell KA.out 0).trans rfl
            have zA1_ : (W11.drewN m).cell? ⟨ga, 1, none⟩ = some (.slice A1 g.f1.length c1) := (blk_cell KA.out 1).trans rfl
            have zA2_ : (W11.drewN m).cell? ⟨ga, 2, none⟩ = some (.slice A2 g.f2.length c2) := (blk_cell KA.out 2).trans rfl
            have zA3_ : (W11.drewN m).cell? ⟨ga, 3, none⟩ = some (.slice A3 g.f3.length c3) := (blk_cell KA.out 3).trans rfl
            have zY0_ : (W11.drewN m).cell? ⟨gy, 0, none⟩ = some (.int .i64 g.f0) := (blk_cell KY.out 0).trans rfl
            have zY1_ : (W11.drewN m).cell? ⟨gy, 1, none⟩ = some (.slice D1 g.f1.length d1) := (blk_cell KY.out 1).trans rfl
            have zY2_ : (W11.drewN m).cell? ⟨gy, 2, none⟩ = some (.slice D2 g.f2.length d2) := (blk_cell KY.out 2).trans rfl
            have zY3_ : (W11.drewN m).cell? ⟨gy, 3, none⟩ = some (.slice D3 g.f3.length d3) := (blk_cell KY.out 3).trans rfl
            go_wp2_with fail
            clear zA0_ zA1_ zA2_ zA3_ zY0_ zY1_ zY2_ zY3_
            refine (equal_calls g.bulk _ _ g g (W11.drewN m) IY.out IA.out (Nat.le_refl _) (by omega) (by omega)).mono ?_
            rintro e W12 ⟨rfl, hb_⟩
            rw [eqG_true rfl]
            have n_ := Aside0.mk (blk_below KA.out hb_)
            clear KA
            have KA := n_
            clear n_
            have n_ := Aside0.mk (IA.out.below hb_)
            clear IA
            have IA := n_
            clear n_
            have n_ := Aside0.mk (below_step HB.out hb_)
            clear HB
            have HB := n_
            clear n_
            have n_ := Aside0.mk (Handle_below HH.out hb_)
            clear HH
            have HH := n_
            clear n_
            have n_ := Aside0.mk (Kd.C_below HC.out hb_)
            clear HC
            have HC := n_
            clear n_
            have n_ := Aside0.mk (IX.out.below hb_)
            clear IX
            have IX := n_
            clear n_
            have n_ := Aside0.mk (blk_below KX.out hb_)
            clear KX
            have KX := n_
            clear n_
            have n_ := Aside0.mk (Kd.R_below FU.out hb_)
            clear FU
            have FU := n_
            clear n_
            have n_ := Aside0.mk (Kd.R_below FM.out hb_)
            clear FM
            have FM := n_
            clear n_
            have n_ := Aside0.mk (IY.out.below hb_)
            clear IY
            have IY := n_
            clear n_
            have n_ := Aside0.mk (blk_below KY.out hb_)
            clear KY
            have KY := n_
            clear n_
            clear hb_
            have zA0_ : W12.cell? ⟨ga, 0, none⟩ = some (.int .i64 g.f0) := (blk_cell KA.out 0).trans rfl
            have zA1_ : W12.cell? ⟨ga, 1, none⟩ = some (.slice A1 g.f1.length c1) := (blk_cell KA.out 1).trans rfl
            have zA2_ : W12.cell? ⟨ga, 2, none⟩ = some (.slice A2 g.f2.length c2) := (blk_cell KA.out 2).trans rfl
            have zA3_ : W12.cell? ⟨ga, 3, none⟩ = some (.slice A3 g.f3.length c3) := (blk_cell KA.out 3).trans rfl
            have zY0_ : W12.cell? ⟨gy, 0, none⟩ = some (.int .i64 g.f0) := (blk_cell KY.out 0).trans rfl
            have zY1_ : W12.cell? ⟨gy, 1, none⟩ = some (.slice D1 g.f1.length d1) := (blk_cell KY.out 1).trans rfl
            have zY2_ : W12.cell? ⟨gy, 2, none⟩ = some (.slice D2 g.f2.length d2) := (blk_cell KY.out 2).trans rfl
            have zY3_ : W12.cell? ⟨gy, 3, none⟩ = some (.slice D3 g.f3.length d3) := (blk_cell KY.out 3).trans rfl
            go_wp2_with fail
            clear zA0_ zA1_ zA2_ zA3_ zY0_ zY1_ zY2_ zY3_
            refine (points_calls _ g W12 IA.out (by omega)).mono ?_
            rintro e W13 ⟨up, rfl, hr_, hb_⟩
            obtain ⟨AP, cP, rfl⟩ := Kd.R_slice hr_
            clear hr_
            rw [ptsAll_len, ← HLP.out, ← HP.out]
            have n_ := Aside0.mk (blk_below KA.out hb_)
            clear KA
            have KA := n_
            clear n_
            have n_ := Aside0.mk (IA.out.below hb_)
            clear IA
            have IA := n_
            clear n_
            have n_ := Aside0.mk (below_step HB.out hb_)
            clear HB
            have HB := n_
            clear n_
            have n_ := Aside0.mk (Handle_below HH.out hb_)
            clear HH
            have HH := n_
            clear n_
            have n_ := Aside0.mk (Kd.C_below HC.out hb_)
            clear HC
            have HC := n_
            clear n_
            have n_ := Aside0.mk (IX.out.below hb_)
            clear IX
            have IX := n_
            clear n_
            have n_ := Aside0.mk (blk_below KX.out hb_)
            clear KX
            have KX := n_
            clear n_
            have n_ := Aside0.mk (Kd.R_below FU.out hb_)
            clear FU
            have FU := n_
            clear n_
            have n_ := Aside0.mk (Kd.R_below FM.out hb_)
            clear FM
            have FM := n_
            clear n_
            have n_ := Aside0.mk (IY.out.below hb_)
            clear IY
            have IY := n_
            clear n_
            have n_ := Aside0.mk (blk_below KY.out hb_)
            clear KY
            have KY := n_
            clear n_
            clear hb_
            go_wp2_with fail
            go_ret
            exact ⟨rfl, HB.out⟩
          | succ kq =>
            have hlt : (k : Int) < (L.length : Int) := by omega
            have hlt1 : k < L.length := by omega
            have k0 : (0 : Int) ≤ (k : Int) := by omega
            obtain ⟨a1, S1, s1, L1, l1, e1, p0, p1, p2, i1, j1, i2, j2⟩ := at_Nd (Kd.R_reads' FM.out).2.2 (k : Int) (by omega) (by omega)
            subst e1
            rw [rd_Nd_at _ _ hlt1, Int.toNat_natCast] at p0 p1 p2
            have hsc := linesTo_succ L k hlt1
            have hsb := linesTo_le L (k + 1)
            have hsw := HLW.out
            obtain ⟨y, hy⟩ : ∃ y, y = (L[k]).f2.length := ⟨_, rfl⟩
            obtain ⟨z, hz⟩ : ∃ z, z = linesTo L k := ⟨_, rfl⟩
            rw [← hy] at p2 hsc
            rw [← hz] at hsc ⊢
            have HSC := Aside0.mk hsc
            have hzy : z + y ≤ 2097152 := by omega
            clear i1 j1 i2 j2 hsb hsw hsc hy hz
            go_wp2_with fail
            go_roundg kq
            case measure => omega
            case rel => exact ⟨k + 1, by omega, by go_num, by rw [HSC.out]; go_num, _, rfl⟩
end Go.Proofs.YtmcbniobbbjdjaaDoor.Tree
