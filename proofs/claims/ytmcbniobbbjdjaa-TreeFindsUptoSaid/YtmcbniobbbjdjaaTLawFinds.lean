/- The law TreeFinds by contract, where what it reads weighs no more than the bound. No conditions but those told. -/
import Derived.Test.YtmcbniobbbjdjaaTSmall
import Derived.Test.YtmcbniobbbjdjaaTAlive
import Derived.Test.YtmcbniobbbjdjaaTRoomy
import Derived.Test.YtmcbniobbbjdjaaTKept
import Derived.Test.YtmcbniobbbjdjaaTEqual
import Derived.Test.YtmcbniobbbjdjaaTGot
namespace Go.Proofs.Ytmcbniobbbjdjaa.Tree
open Go.RowKit Go.Proofs.YtmcbniobbbjdjaaW.PrintWords Go.Proofs.YtmcbniobbbjdjaaW.PrintLast Go.Proofs.YtmcbniobbbjdjaaW.PrintMore
set_option linter.unusedVariables false
set_option linter.unusedSimpArgs false
set_option maxRecDepth 100000 in
set_option maxHeartbeats 16000000 in
theorem finds_calls (v u : Value) (g p : Ge) (A : Option Addr) (c : Nat) (q : List Int) (w : World) (hv : IsG w v g) (hu : IsG w u p) (hcap : q.length ≤ c) (hp : Kd.C (Kd.int .i64) w A q.length q) (hall : g.bulk + q.length + p.bulk ≤ 1048576) :
    Calls Try.prog 3 #[v, .slice A q.length c, u] w fun e w' => e = .returned (.bool true) ∧ Below w.heap.size w w' := by
  have HV := Aside0.mk hv
  have HU := Aside0.mk hu
  have HP := Aside0.mk hp
  have HC := Aside0.mk hcap
  obtain ⟨A1, c1, A2, c2, A3, c3, rfl, _⟩ := hv
  obtain ⟨D1, d1, D2, d2, D3, d3, rfl, _⟩ := hu
  clear hp hcap
  have hfb : (findV g q).bulk ≤ 1073741824 := by have := findV_bulk g q; omega
  have hpb : (putV g q p).bulk ≤ 1073741824 := by have := putV_bulk g q p; omega
  have hun := Try.underlying26
  have HB0 := Aside0.mk (Below.refl w.heap.size w)
  have hmx : Try.prog.follows .mixedOrders = true := by kernel_rfl
  go_enter Try.func3, Try.ntmps3
  go_wp2_with fail
  obtain ⟨ga, hga⟩ : ∃ x, x = w.heap.size := ⟨_, rfl⟩
  obtain ⟨gb, hgb⟩ : ∃ x, x = w.heap.size + 1 := ⟨_, rfl⟩
  obtain ⟨W0, hW0⟩ : ∃ x, x = ((w.alloc (.cells #[.int .i64 g.f0, .slice A1 g.f1.length c1, .slice A2 g.f2.length c2, .slice A3 g.f3.length c3] 26)).alloc (.cells #[.int .i64 p.f0, .slice D1 p.f1.length d1, .slice D2 p.f2.length d2, .slice D3 p.f3.length d3] 26)) := ⟨_, rfl⟩
  rw [← hW0, ← hgb, ← hga]
  have KA := Aside0.mk (show W0.heap[ga]? = some (.cells #[.int .i64 g.f0, .slice A1 g.f1.length c1, .slice A2 g.f2.length c2, .slice A3 g.f3.length c3] 26 (0, 0)) by rw [hW0, hga]; exact blk_alloc (World.alloc_heap_new _ _) _)
  have KB := Aside0.mk (show W0.heap[gb]? = some (.cells #[.int .i64 p.f0, .slice D1 p.f1.length d1, .slice D2 p.f2.length d2, .slice D3 p.f3.length d3] 26 (0, 0)) by
    rw [hW0, hgb]
    have h := World.alloc_heap_new (w.alloc (.cells #[.int .i64 g.f0, .slice A1 g.f1.length c1, .slice A2 g.f2.length c2, .slice A3 g.f3.length c3] 26)) (.cells #[.int .i64 p.f0, .slice D1 p.f1.length d1, .slice D2 p.f2.length d2, .slice D3 p.f3.length d3] 26)
    simpa using h)
  have HB := Aside0.mk (show Below w.heap.size w W0 by rw [hW0]; exact below_alloc (below_alloc (Below.refl _ _) _) _)
  have HA := Aside0.mk (HV.out.below HB.out)
  have HG := Aside0.mk (HU.out.below HB.out)
  clear hW0 hga hgb HB0
  refine (small_calls _ g W0 HA.out (by omega)).mono ?_
  rintro e W1 ⟨rfl, hb_⟩
  have n_ := Aside0.mk (blk_below KA.out hb_)
  clear KA
  have KA := n_
  clear n_
  have n_ := Aside0.mk (blk_below KB.out hb_)
  clear KB
  have KB := n_
  clear n_
  have n_ := Aside0.mk (HA.out.below hb_)
  clear HA
  have HA := n_
  clear n_
  have n_ := Aside0.mk (HG.out.below hb_)
  clear HG
  have HG := n_
  clear n_
  have n_ := Aside0.mk (below_step HB.out hb_)
  clear HB
  have HB := n_
  clear n_
  clear hb_
  have zA0_ : W1.cell? ⟨ga, 0, none⟩ = some (.int .i64 g.f0) := (blk_cell KA.out 0).trans rfl
  have zA1_ : W1.cell? ⟨ga, 1, none⟩ = some (.slice A1 g.f1.length c1) := (blk_cell KA.out 1).trans rfl
  have zA2_ : W1.cell? ⟨ga, 2, none⟩ = some (.slice A2 g.f2.length c2) := (blk_cell KA.out 2).trans rfl
  have zA3_ : W1.cell? ⟨ga, 3, none⟩ = some (.slice A3 g.f3.length c3) := (blk_cell KA.out 3).trans rfl
  have zB0_ : W1.cell? ⟨gb, 0, none⟩ = some (.int .i64 p.f0) := (blk_cell KB.out 0).trans rfl
  have zB1_ : W1.cell? ⟨gb, 1, none⟩ = some (.slice D1 p.f1.length d1) := (blk_cell KB.out 1).trans rfl
  have zB2_ : W1.cell? ⟨gb, 2, none⟩ = some (.slice D2 p.f2.length d2) := (blk_cell KB.out 2).trans rfl
  have zB3_ : W1.cell? ⟨gb, 3, none⟩ = some (.slice D3 p.f3.length d3) := (blk_cell KB.out 3).trans rfl
  cases hs1 : isSmall g with
  | false =>
    go_wp2_with fail
    refine (alive_calls W1).mono ?_
    rintro e w9 ⟨rfl, hb9⟩
    have HB9 := Aside0.mk (below_step HB.out hb9)
    clear hb9
    go_wp2_with fail
    go_ret
    exact ⟨rfl, HB9.out⟩
  | true =>
    clear hs1
    go_wp2_with fail
    clear zA0_ zA1_ zA2_ zA3_ zB0_ zB1_ zB2_ zB3_
    refine (small_calls _ p W1 HG.out (by omega)).mono ?_
    rintro e W2 ⟨rfl, hb_⟩
    have n_ := Aside0.mk (blk_below KA.out hb_)
    clear KA
    have KA := n_
    clear n_
    have n_ := Aside0.mk (blk_below KB.out hb_)
    clear KB
    have KB := n_
    clear n_
    have n_ := Aside0.mk (HA.out.below hb_)
    clear HA
    have HA := n_
    clear n_
    have n_ := Aside0.mk (HG.out.below hb_)
    clear HG
    have HG := n_
    clear n_
    have n_ := Aside0.mk (below_step HB.out hb_)
    clear HB
    have HB := n_
    clear n_
    clear hb_
    have zA0_ : W2.cell? ⟨ga, 0, none⟩ = some (.int .i64 g.f0) := (blk_cell KA.out 0).trans rfl
    have zA1_ : W2.cell? ⟨ga, 1, none⟩ = some (.slice A1 g.f1.length c1) := (blk_cell KA.out 1).trans rfl
    have zA2_ : W2.cell? ⟨ga, 2, none⟩ = some (.slice A2 g.f2.length c2) := (blk_cell KA.out 2).trans rfl
    have zA3_ : W2.cell? ⟨ga, 3, none⟩ = some (.slice A3 g.f3.length c3) := (blk_cell KA.out 3).trans rfl
    have zB0_ : W2.cell? ⟨gb, 0, none⟩ = some (.int .i64 p.f0) := (blk_cell KB.out 0).trans rfl
    have zB1_ : W2.cell? ⟨gb, 1, none⟩ = some (.slice D1 p.f1.length d1) := (blk_cell KB.out 1).trans rfl
    have zB2_ : W2.cell? ⟨gb, 2, none⟩ = some (.slice D2 p.f2.length d2) := (blk_cell KB.out 2).trans rfl
    have zB3_ : W2.cell? ⟨gb, 3, none⟩ = some (.slice D3 p.f3.length d3) := (blk_cell KB.out 3).trans rfl
    cases hs2 : isSmall p with
    | false =>
      go_wp2_with fail
      refine (alive_calls W2).mono ?_
      rintro e w9 ⟨rfl, hb9⟩
      have HB9 := Aside0.mk (below_step HB.out hb9)
      clear hb9
      go_wp2_with fail
      go_ret
      exact ⟨rfl, HB9.out⟩
    | true =>
      clear hs2
      go_wp2_with fail
      clear zA0_ zA1_ zA2_ zA3_ zB0_ zB1_ zB2_ zB3_
      refine (roomy_calls g.bulk _ g W2 HA.out (Nat.le_refl _) (by omega)).mono ?_
      rintro e W3 ⟨cs, rfl, hM, hb_⟩
      have hK := (kRm g.bulk).K_of_M hM
      obtain ⟨E1, e1, E2, e2, E3, e3, rfl, _⟩ := kGe_open (kRm_isK _ _ _ _ hK)
      have n_ := Aside0.mk (blk_below KA.out hb_)
      clear KA
      have KA := n_
      clear n_
      have n_ := Aside0.mk (blk_below KB.out hb_)
      clear KB
      have KB := n_
      clear n_
      have n_ := Aside0.mk (HA.out.below hb_)
      clear HA
      have HA := n_
      clear n_
      have n_ := Aside0.mk (HG.out.below hb_)
      clear HG
      have HG := n_
      clear n_
      have n_ := Aside0.mk (below_step HB.out hb_)
      clear HB
      have HB := n_
      clear n_
      clear hb_
      have RX := Aside0.mk (show RoomyAt g.bulk W3 (.agg #[.int .i64 g.f0, .slice E1 g.f1.length e1, .slice E2 g.f2.length e2, .slice E3 g.f3.length e3]) g from ⟨_, rfl, hK⟩)
      clear hM hK
      have zA0_ : (W3.alloc (.cells #[.int .i64 g.f0, .slice E1 g.f1.length e1, .slice E2 g.f2.length e2, .slice E3 g.f3.length e3] 26)).cell? ⟨ga, 0, none⟩ = some (.int .i64 g.f0) := (blk_cell (blk_alloc KA.out _) 0).trans rfl
      have zA1_ : (W3.alloc (.cells #[.int .i64 g.f0, .slice E1 g.f1.length e1, .slice E2 g.f2.length e2, .slice E3 g.f3.length e3] 26)).cell? ⟨ga, 1, none⟩ = some (.slice A1 g.f1.length c1) := (blk_cell (blk_alloc KA.out _) 1).trans rfl
      have zA2_ : (W3.alloc (.cells #[.int .i64 g.f0, .slice E1 g.f1.length e1, .slice E2 g.f2.length e2, .slice E3 g.f3.length e3] 26)).cell? ⟨ga, 2, none⟩ = some (.slice A2 g.f2.length c2) := (blk_cell (blk_alloc KA.out _) 2).trans rfl
      have zA3_ : (W3.alloc (.cells #[.int .i64 g.f0, .slice E1 g.f1.length e1, .slice E2 g.f2.length e2, .slice E3 g.f3.length e3] 26)).cell? ⟨ga, 3, none⟩ = some (.slice A3 g.f3.length c3) := (blk_cell (blk_alloc KA.out _) 3).trans rfl
      have zB0_ : (W3.alloc (.cells #[.int .i64 g.f0, .slice E1 g.f1.length e1, .slice E2 g.f2.length e2, .slice E3 g.f3.length e3] 26)).cell? ⟨gb, 0, none⟩ = some (.int .i64 p.f0) := (blk_cell (blk_alloc KB.out _) 0).trans rfl
      have zB1_ : (W3.alloc (.cells #[.int .i64 g.f0, .slice E1 g.f1.length e1, .slice E2 g.f2.length e2, .slice E3 g.f3.length e3] 26)).cell? ⟨gb, 1, none⟩ = some (.slice D1 p.f1.length d1) := (blk_cell (blk_alloc KB.out _) 1).trans rfl
      have zB2_ : (W3.alloc (.cells #[.int .i64 g.f0, .slice E1 g.f1.length e1, .slice E2 g.f2.length e2, .slice E3 g.f3.length e3] 26)).cell? ⟨gb, 2, none⟩ = some (.slice D2 p.f2.length d2) := (blk_cell (blk_alloc KB.out _) 2).trans rfl
      have zB3_ : (W3.alloc (.cells #[.int .i64 g.f0, .slice E1 g.f1.length e1, .slice E2 g.f2.length e2, .slice E3 g.f3.length e3] 26)).cell? ⟨gb, 3, none⟩ = some (.slice D3 p.f3.length d3) := (blk_cell (blk_alloc KB.out _) 3).trans rfl
      go_wp2_with fail
      clear zA0_ zA1_ zA2_ zA3_ zB0_ zB1_ zB2_ zB3_
      obtain ⟨gx, hgx_⟩ : ∃ x, x = W3.heap.size := ⟨_, rfl⟩
      obtain ⟨W4, hW4_⟩ : ∃ x, x = W3.alloc (.cells #[.int .i64 g.f0, .slice E1 g.f1.length e1, .slice E2 g.f2.length e2, .slice E3 g.f3.length e3] 26) := ⟨_, rfl⟩
      rw [← hW4_, ← hgx_]
      have KX := Aside0.mk (show W4.heap[gx]? = some (.cells #[.int .i64 g.f0, .slice E1 g.f1.length e1, .slice E2 g.f2.length e2, .slice E3 g.f3.length e3] 26 (0, 0)) by rw [hW4_, hgx_]; exact World.alloc_heap_new _ _)
      have hb_ : Below W3.heap.size W3 W4 := by rw [hW4_]; exact below_alloc (Below.refl _ _) _
      clear hW4_ hgx_
      have n_ := Aside0.mk (blk_below KA.out hb_)
      clear KA
      have KA := n_
      clear n_
      have n_ := Aside0.mk (blk_below KB.out hb_)
      clear KB
      have KB := n_
      clear n_
      have n_ := Aside0.mk (HA.out.below hb_)
      clear HA
      have HA := n_
      clear n_
      have n_ := Aside0.mk (HG.out.below hb_)
      clear HG
      have HG := n_
      clear n_
      have n_ := Aside0.mk (below_step HB.out hb_)
      clear HB
      have HB := n_
      clear n_
      have n_ := Aside0.mk (RX.out.below hb_)
      clear RX
      have RX := n_
      clear n_
      clear hb_
      refine (roomy_calls p.bulk _ p W4 HG.out (Nat.le_refl _) (by omega)).mono ?_
      rintro e W5 ⟨cs, rfl, hM, hb_⟩
      have hK := (kRm p.bulk).K_of_M hM
      obtain ⟨F1, f1, F2, f2, F3, f3, rfl, _⟩ := kGe_open (kRm_isK _ _ _ _ hK)
      have n_ := Aside0.mk (blk_below KA.out hb_)
      clear KA
      have KA := n_
      clear n_
      have n_ := Aside0.mk (blk_below KB.out hb_)
      clear KB
      have KB := n_
      clear n_
      have n_ := Aside0.mk (HA.out.below hb_)
      clear HA
      have HA := n_
      clear n_
      have n_ := Aside0.mk (HG.out.below hb_)
      clear HG
      have HG := n_
      clear n_
      have n_ := Aside0.mk (below_step HB.out hb_)
      clear HB
      have HB := n_
      clear n_
      have n_ := Aside0.mk (RX.out.below hb_)
      clear RX
      have RX := n_
      clear n_
      have n_ := Aside0.mk (blk_below KX.out hb_)
      clear KX
      have KX := n_
      clear n_
      clear hb_
      have RY := Aside0.mk (show RoomyAt p.bulk W5 (.agg #[.int .i64 p.f0, .slice F1 p.f1.length f1, .slice F2 p.f2.length f2, .slice F3 p.f3.length f3]) p from ⟨_, rfl, hK⟩)
      clear hM hK
      have hre_ : (W5.alloc (.cells #[.int .i64 p.f0, .slice F1 p.f1.length f1, .slice F2 p.f2.length f2, .slice F3 p.f3.length f3] 26)).heap.size = W5.heap.size + 1 := by simp
      have HRE := Aside0.mk (show Kd.R (Kd.int .i64) 3 ((W5.alloc (.cells #[.int .i64 p.f0, .slice F1 p.f1.length f1, .slice F2 p.f2.length f2, .slice F3 p.f3.length f3] 26)).alloc (.cells #[] 3)) (W5.alloc (.cells #[.int .i64 p.f0, .slice F1 p.f1.length f1, .slice F2 p.f2.length f2, .slice F3 p.f3.length f3] 26)).heap.size (fun _ => True) (.slice (some ⟨W5.heap.size + 1, 0, none⟩) 0 0) [] by rw [← hre_]; exact R_int0 _ (Nat.le_refl _) _ trivial)
      have HPE := Aside0.mk (show Kd.C (Kd.int .i64) ((W5.alloc (.cells #[.int .i64 p.f0, .slice F1 p.f1.length f1, .slice F2 p.f2.length f2, .slice F3 p.f3.length f3] 26)).alloc (.cells #[] 3)) A q.length q from Kd.C_below HP.out (below_alloc (below_alloc HB.out _) _))
      clear hre_
      go_wp2_with (first
        | ((with_reducible refine gate_builtin (b := .append) (xs := #[.tmp 32, .tmp 33]) rfl ?_); at_builtin; refine Kd.R_append_rows (Kd.int .i64) (w0 := (W5.alloc (.cells #[.int .i64 p.f0, .slice F1 p.f1.length f1, .slice F2 p.f2.length f2, .slice F3 p.f3.length f3] 26))) (W5.alloc (.cells #[.int .i64 p.f0, .slice F1 p.f1.length f1, .slice F2 p.f2.length f2, .slice F3 p.f3.length f3] 26)).heap.size rfl (.tmp 32) (.tmp 33) 27 3 (.int .i64 0) 8 rfl Try.underlying27 infoI rfl (by decide) (by omega) (.slice (some ⟨W5.heap.size + 1, 0, none⟩) 0 0) ([]) (q) _ _ _ (fun _ => True) (fun _ => False) rfl rfl ?aO ?aR (fun _ _ h => h) (fun _ h => h.elim) ?aF ?aB ?aS ?aL ?_; (case aO => exact HRE.out); (case aR => exact HPE.out); (case aF => exact (fun _ _ => trivial)); (case aB => exact (below_alloc (Below.refl (W5.alloc (.cells #[.int .i64 p.f0, .slice F1 p.f1.length f1, .slice F2 p.f2.length f2, .slice F3 p.f3.length f3] 26)).heap.size (W5.alloc (.cells #[.int .i64 p.f0, .slice F1 p.f1.length f1, .slice F2 p.f2.length f2, .slice F3 p.f3.length f3] 26))) (.cells #[] 3))); (case aS => exact ((below_alloc (Below.refl (W5.alloc (.cells #[.int .i64 p.f0, .slice F1 p.f1.length f1, .slice F2 p.f2.length f2, .slice F3 p.f3.length f3] 26)).heap.size (W5.alloc (.cells #[.int .i64 p.f0, .slice F1 p.f1.length f1, .slice F2 p.f2.length f2, .slice F3 p.f3.length f3] 26))) (.cells #[] 3))).size); (case aL => show (0 + q.length) * 8 ≤ _; omega); intro v1_ w1_ ho_ hb_ hg_ hat_; rw [List.nil_append] at ho_; obtain ⟨A5, c5, e5⟩ := Kd.R_slice ho_; subst e5; have HO1 := Aside0.mk ho_; have HB1 := Aside0.mk hb_; clear ho_ hb_ hg_ hat_)
        | ((with_reducible refine gate_builtin (b := .append) (xs := #[.tmp 34, .tmp 35]) rfl ?_); at_builtin; refine Kd.R_append_rows (Kd.int .i64) (w0 := (W5.alloc (.cells #[.int .i64 p.f0, .slice F1 p.f1.length f1, .slice F2 p.f2.length f2, .slice F3 p.f3.length f3] 26))) (W5.alloc (.cells #[.int .i64 p.f0, .slice F1 p.f1.length f1, .slice F2 p.f2.length f2, .slice F3 p.f3.length f3] 26)).heap.size rfl (.tmp 34) (.tmp 35) 27 3 (.int .i64 0) 8 rfl Try.underlying27 infoI rfl (by decide) (by omega) (.slice A5 q.length c5) (q) ([9]) _ _ _ (fun _ => True) (fun _ => False) rfl rfl ?aO ?aR (fun _ _ h => h) (fun _ h => h.elim) ?aF ?aB ?aS ?aL ?_; (case aO => exact (Kd.R_alloc HO1.out _)); (case aR => exact (Kd.R_reads' (R_int1 w1_ 9 (Nat.le_refl _) (fun _ => True) trivial)).2.2); (case aF => exact (fun _ _ => trivial)); (case aB => exact (below_alloc HB1.out (.cells #[.int .i64 9] 3))); (case aS => exact ((below_alloc HB1.out (.cells #[.int .i64 9] 3))).size); (case aL => show (q.length + 1) * 8 ≤ _; omega); intro v2_ w2_ ho_ hb_ hg_ hat_; obtain ⟨Aw, cw, e6⟩ := Kd.R_slice ho_; rw [List.length_append, List.length_singleton] at e6; subst e6; have HWY := Aside0.mk ho_; have HB2 := Aside0.mk hb_; clear ho_ hb_ hg_ hat_ HO1 HB1))
      obtain ⟨gy, hgy⟩ : ∃ x, x = W5.heap.size := ⟨_, rfl⟩
      rw [← hgy]
      have KY := Aside0.mk (show w2_.heap[gy]? = some (.cells #[.int .i64 p.f0, .slice F1 p.f1.length f1, .slice F2 p.f2.length f2, .slice F3 p.f3.length f3] 26 (0, 0)) by rw [hgy]; exact blk_below (World.alloc_heap_new W5 _) HB2.out)
      have hb_ : Below W5.heap.size W5 w2_ := below_step (below_alloc (Below.refl W5.heap.size W5) (.cells #[.int .i64 p.f0, .slice F1 p.f1.length f1, .slice F2 p.f2.length f2, .slice F3 p.f3.length f3] 26)) HB2.out
      have hcw : q.length + 1 ≤ cw := (R_readsN HWY.out).1
      clear hgy HRE HPE HB2
      have n_ := Aside0.mk (blk_below KA.out hb_)
      clear KA
      have KA := n_
      clear n_
      have n_ := Aside0.mk (blk_below KB.out hb_)
      clear KB
      have KB := n_
      clear n_
      have n_ := Aside0.mk (HA.out.below hb_)
      clear HA
      have HA := n_
      clear n_
      have n_ := Aside0.mk (HG.out.below hb_)
      clear HG
      have HG := n_
      clear n_
      have n_ := Aside0.mk (below_step HB.out hb_)
      clear HB
      have HB := n_
      clear n_
      have n_ := Aside0.mk (RX.out.below hb_)
      clear RX
      have RX := n_
      clear n_
      have n_ := Aside0.mk (blk_below KX.out hb_)
      clear KX
      have KX := n_
      clear n_
      have n_ := Aside0.mk (RY.out.below hb_)
      clear RY
      have RY := n_
      clear n_
      clear hb_
      have hq0 : (0 : Int) ≤ (q.length : Int) := by omega
      have hq1 : (q.length : Int) ≤ (q.length : Int) + 1 := by omega
      have hq2 : q.length ≤ cw := by omega
      refine start_ (n := 12) (S := (fun w' => w'.cell? ⟨ga, 0, none⟩ = some (.int .i64 g.f0) ∧ w'.cell? ⟨ga, 1, none⟩ = some (.slice A1 g.f1.length c1) ∧ w'.cell? ⟨ga, 2, none⟩ = some (.slice A2 g.f2.length c2) ∧ w'.cell? ⟨ga, 3, none⟩ = some (.slice A3 g.f3.length c3) ∧ w'.cell? ⟨gb, 0, none⟩ = some (.int .i64 p.f0) ∧ w'.cell? ⟨gb, 1, none⟩ = some (.slice D1 p.f1.length d1) ∧ w'.cell? ⟨gb, 2, none⟩ = some (.slice D2 p.f2.length d2) ∧ w'.cell? ⟨gb, 3, none⟩ = some (.slice D3 p.f3.length d3) ∧ w'.cell? ⟨gx, 0, none⟩ = some (.int .i64 g.f0) ∧ w'.cell? ⟨gx, 1, none⟩ = some (.slice E1 g.f1.length e1) ∧ w'.cell? ⟨gx, 2, none⟩ = some (.slice E2 g.f2.length e2) ∧ w'.cell? ⟨gx, 3, none⟩ = some (.slice E3 g.f3.length e3) ∧ w'.cell? ⟨gy, 0, none⟩ = some (.int .i64 p.f0) ∧ w'.cell? ⟨gy, 1, none⟩ = some (.slice F1 p.f1.length f1) ∧ w'.cell? ⟨gy, 2, none⟩ = some (.slice F2 p.f2.length f2) ∧ w'.cell? ⟨gy, 3, none⟩ = some (.slice F3 p.f3.length f3) ∧ True)) (ds := [10]) #[false, false, false, false, false, false, false, false, false, false, false, false] hmx rfl rfl ⟨(blk_cell (w := w2_.drew) KA.out 0).trans rfl, (blk_cell (w := w2_.drew) KA.out 1).trans rfl, (blk_cell (w := w2_.drew) KA.out 2).trans rfl, (blk_cell (w := w2_.drew) KA.out 3).trans rfl, (blk_cell (w := w2_.drew) KB.out 0).trans rfl, (blk_cell (w := w2_.drew) KB.out 1).trans rfl, (blk_cell (w := w2_.drew) KB.out 2).trans rfl, (blk_cell (w := w2_.drew) KB.out 3).trans rfl, (blk_cell (w := w2_.drew) KX.out 0).trans rfl, (blk_cell (w := w2_.drew) KX.out 1).trans rfl, (blk_cell (w := w2_.drew) KX.out 2).trans rfl, (blk_cell (w := w2_.drew) KX.out 3).trans rfl, (blk_cell (w := w2_.drew) KY.out 0).trans rfl, (blk_cell (w := w2_.drew) KY.out 1).trans rfl, (blk_cell (w := w2_.drew) KY.out 2).trans rfl, (blk_cell (w := w2_.drew) KY.out 3).trans rfl, trivial⟩ (fun hHeld0 => ?_)
      have n_ := Aside0.mk (blk_below KA.out (below_drew (Below.refl w2_.heap.size w2_)))
      clear KA
      have KA := n_
      clear n_
      have n_ := Aside0.mk (blk_below KB.out (below_drew (Below.refl w2_.heap.size w2_)))
      clear KB
      have KB := n_
      clear n_
      have n_ := Aside0.mk (HA.out.below (below_drew (Below.refl w2_.heap.size w2_)))
      clear HA
      have HA := n_
      clear n_
      have n_ := Aside0.mk (HG.out.below (below_drew (Below.refl w2_.heap.size w2_)))
      clear HG
      have HG := n_
      clear n_
      have n_ := Aside0.mk (below_step HB.out (below_drew (Below.refl w2_.heap.size w2_)))
      clear HB
      have HB := n_
      clear n_
      have n_ := Aside0.mk (RX.out.below (below_drew (Below.refl w2_.heap.size w2_)))
      clear RX
      have RX := n_
      clear n_
      have n_ := Aside0.mk (blk_below KX.out (below_drew (Below.refl w2_.heap.size w2_)))
      clear KX
      have KX := n_
      clear n_
      have n_ := Aside0.mk (RY.out.below (below_drew (Below.refl w2_.heap.size w2_)))
      clear RY
      have RY := n_
      clear n_
      have n_ := Aside0.mk (blk_below KY.out (below_drew (Below.refl w2_.heap.size w2_)))
      clear KY
      have KY := n_
      clear n_
      have n_ := Aside0.mk (Kd.R_below HWY.out (below_drew (Below.refl w2_.heap.size w2_)))
      clear HWY
      have HWY := n_
      clear n_
      generalize w2_.drew = W6 at KA KB HA HG HB RX KX RY KY HWY hHeld0 ⊢
      (refine take_ (i := 0) (N := some 38) (v := ?_) (a' := ?_) #[true, false, false, false, false, false, false, false, false, false, false, false] rfl rfl (by kernel_rfl) (fun _ _ _ h => h) (Or.inl ⟨by rfl, ?_⟩) hHeld0 ?_ ?_; rotate_left; (focus (intro w'_ hs_; (repeat obtain ⟨_, hs_⟩ := hs_); go_simp; with_reducible rfl)); rotate_left; (focus (simp only [Act.put, List.setIfInBounds_toArray, List.set_cons_zero, List.set_cons_succ]; rfl)))
      (refine pure_ (i := 1) (N := some 39) (v := ?_) (a' := ?_) #[true, true, false, false, false, false, false, false, false, false, false, false] rfl rfl (by kernel_rfl) (fun _ _ _ h => h) (Or.inl ⟨by rfl, ?_⟩) ?_ ?_; rotate_left; (focus (intro w'_; go_simp; with_reducible rfl)); rotate_left; (focus (simp only [Act.put, List.setIfInBounds_toArray, List.set_cons_zero, List.set_cons_succ]; rfl)))
      (refine pure_ (i := 2) (N := some 40) (v := ?_) (a' := ?_) #[true, true, true, false, false, false, false, false, false, false, false, false] rfl rfl (by kernel_rfl) (fun _ _ _ h => h) (Or.inl ⟨by rfl, ?_⟩) ?_ ?_; rotate_left; (focus (intro w'_; go_simp; with_reducible rfl)); rotate_left; (focus (simp only [Act.put, List.setIfInBounds_toArray, List.set_cons_zero, List.set_cons_succ]; rfl)))
      (refine pure_ (i := 3) (N := some 41) (v := ?_) (a' := ?_) #[true, true, true, true, false, false, false, false, false, false, false, false] rfl rfl (by kernel_rfl) (fun _ _ _ h => h) (Or.inl ⟨by rfl, ?_⟩) ?_ ?_; rotate_left; (focus (intro w'_; go_simp; with_reducible rfl)); rotate_left; (focus (simp only [Act.put, List.setIfInBounds_toArray, List.set_cons_zero, List.set_cons_succ]; rfl)))
      (refine pure_ (i := 4) (N := some 42) (v := ?_) (a' := ?_) #[true, true, true, true, true, false, false, false, false, false, false, false] rfl rfl (by kernel_rfl) (fun _ _ _ h => h) (Or.inl ⟨by rfl, ?_⟩) ?_ ?_; rotate_left; (focus (intro w'_; go_simp; with_reducible rfl)); rotate_left; (focus (simp only [Act.put, List.setIfInBounds_toArray, List.set_cons_zero, List.set_cons_succ]; rfl)))
      refine join_ (σ := Nat × Value) 2 #[true, true, true, true, true, true, true, true, true, true, false, false] (fun s => [(43, .tuple #[s.2, .int .i64 (findC g q)]), (37, .tuple #[s.2, .int .i64 (findC g q)]), (44, s.2), (45, .int .i64 (findC g q)), (10, .pointer (some ⟨s.1, 0, none⟩))]) (fun s w' => Below W6.heap.size W6 w' ∧ w'.heap[s.1]? = some (.cells #[.int .i64 0, .slice none 0 0, .slice none 0 0, .slice none 0 0] 26 (0, 0)) ∧ W6.heap.size ≤ s.1 ∧ KeepG w' s.1 s.2 (findV g q)) ?hcontU ?hwaysU
      case hwaysU =>
        intro hcont
        refine two_ (i := 5) (j := 9) #[true, true, true, true, true, true, false, false, false, false, false, false] #[true, true, true, true, true, false, false, false, false, true, false, false] rfl rfl rfl rfl (by kernel_rfl) (by decide) (by decide) (fun K hK => ?_) (fun K hK => ?_)
        · refine goes_ Try.func11 (by kernel_rfl) rfl #[.agg #[.int .i64 g.f0, .slice E1 g.f1.length e1, .slice E2 g.f2.length e2, .slice E3 g.f3.length e3], .slice Aw q.length cw] (by rfl) rfl rfl (by (try simp only [List.map_toArray, List.map_cons, List.map_nil]); first | done | rfl) ?_
          refine (Find_calls _ g Aw q.length cw q W6 RX.out.isG (by omega) rfl (C_frontI (R_readsN HWY.out).2)).mono ?_
          rintro e w1 ⟨u, c_, rfl, hr_, hb1⟩
          obtain ⟨hg_, rfl⟩ := hr_.got
          refine ⟨_, rfl, hK.out _ _ ⟨(blk_cell (blk_below KA.out hb1) 0).trans rfl, (blk_cell (blk_below KA.out hb1) 1).trans rfl, (blk_cell (blk_below KA.out hb1) 2).trans rfl, (blk_cell (blk_below KA.out hb1) 3).trans rfl, (blk_cell (blk_below KB.out hb1) 0).trans rfl, (blk_cell (blk_below KB.out hb1) 1).trans rfl, (blk_cell (blk_below KB.out hb1) 2).trans rfl, (blk_cell (blk_below KB.out hb1) 3).trans rfl, (blk_cell (blk_below KX.out hb1) 0).trans rfl, (blk_cell (blk_below KX.out hb1) 1).trans rfl, (blk_cell (blk_below KX.out hb1) 2).trans rfl, (blk_cell (blk_below KX.out hb1) 3).trans rfl, (blk_cell (blk_below KY.out hb1) 0).trans rfl, (blk_cell (blk_below KY.out hb1) 1).trans rfl, (blk_cell (blk_below KY.out hb1) 2).trans rfl, (blk_cell (blk_below KY.out hb1) 3).trans rfl, trivial⟩ (fun hHeldB => ?_)⟩
          clear hK K
          (refine norm_ (a' := ?_) ?_ ?_; rotate_left; focus (show Act.put _ (some 43) _ = _; simp only [Act.put, List.setIfInBounds_toArray, List.set_cons_zero, List.set_cons_succ]; rfl))
          (refine pure_ (i := 6) (N := some 37) (v := ?_) (a' := ?_) #[true, true, true, true, true, true, true, false, false, false, false, false] rfl rfl (by kernel_rfl) (fun _ _ _ h => h) (Or.inl ⟨by rfl, ?_⟩) ?_ ?_; rotate_left; (focus (intro w'_; go_simp; with_reducible rfl)); rotate_left; (focus (simp only [Act.put, List.setIfInBounds_toArray, List.set_cons_zero, List.set_cons_succ]; rfl)))
          (refine pure_ (i := 7) (N := some 44) (v := ?_) (a' := ?_) #[true, true, true, true, true, true, true, true, false, false, false, false] rfl rfl (by kernel_rfl) (fun _ _ _ h => h) (Or.inl ⟨by rfl, ?_⟩) ?_ ?_; rotate_left; (focus (intro w'_; go_simp; with_reducible rfl)); rotate_left; (focus (simp only [Act.put, List.setIfInBounds_toArray, List.set_cons_zero, List.set_cons_succ]; rfl)))
          (refine pure_ (i := 8) (N := some 45) (v := ?_) (a' := ?_) #[true, true, true, true, true, true, true, true, true, false, false, false] rfl rfl (by kernel_rfl) (fun _ _ _ h => h) (Or.inl ⟨by rfl, ?_⟩) ?_ ?_; rotate_left; (focus (intro w'_; go_simp; with_reducible rfl)); rotate_left; (focus (simp only [Act.put, List.setIfInBounds_toArray, List.set_cons_zero, List.set_cons_succ]; rfl)))
          refine one_ (i := 9) (N := some 10) #[true, true, true, true, true, true, true, true, true, true, false, false] rfl rfl (by kernel_rfl) (by decide) (fun K hK => ?_)
          (refine value_ (w1 := ?_) (v := ?_) (by rfl) rfl ?_ ?_; rotate_left 2; (focus (go_simp; constructor <;> rfl)))
          have hb2 : Below W6.heap.size W6 (w1.alloc (.cells #[.int .i64 0, .slice none 0 0, .slice none 0 0, .slice none 0 0] 26)) := below_alloc hb1 _
          refine hK.out _ _ ⟨(blk_cell (blk_below KA.out hb2) 0).trans rfl, (blk_cell (blk_below KA.out hb2) 1).trans rfl, (blk_cell (blk_below KA.out hb2) 2).trans rfl, (blk_cell (blk_below KA.out hb2) 3).trans rfl, (blk_cell (blk_below KB.out hb2) 0).trans rfl, (blk_cell (blk_below KB.out hb2) 1).trans rfl, (blk_cell (blk_below KB.out hb2) 2).trans rfl, (blk_cell (blk_below KB.out hb2) 3).trans rfl, (blk_cell (blk_below KX.out hb2) 0).trans rfl, (blk_cell (blk_below KX.out hb2) 1).trans rfl, (blk_cell (blk_below KX.out hb2) 2).trans rfl, (blk_cell (blk_below KX.out hb2) 3).trans rfl, (blk_cell (blk_below KY.out hb2) 0).trans rfl, (blk_cell (blk_below KY.out hb2) 1).trans rfl, (blk_cell (blk_below KY.out hb2) 2).trans rfl, (blk_cell (blk_below KY.out hb2) 3).trans rfl, trivial⟩ (fun hHeldC => ?_)
          (have hh_ := (hcont (w1.heap.size, u) _ ⟨hb2, World.alloc_heap_new _ _, hb1.size, hg_.keep1 _⟩); simp only [putAll, Act.put, List.setIfInBounds_toArray, List.set_cons_zero, List.set_cons_succ] at hh_ ⊢; exact hh_)
        · (refine value_ (w1 := ?_) (v := ?_) (by rfl) rfl ?_ ?_; rotate_left 2; (focus (go_simp; constructor <;> rfl)))
          have hb1 : Below W6.heap.size W6 (W6.alloc (.cells #[.int .i64 0, .slice none 0 0, .slice none 0 0, .slice none 0 0] 26)) := below_alloc (Below.refl _ _) _
          have kz : (W6.alloc (.cells #[.int .i64 0, .slice none 0 0, .slice none 0 0, .slice none 0 0] 26)).heap[W6.heap.size]? = some (.cells #[.int .i64 0, .slice none 0 0, .slice none 0 0, .slice none 0 0] 26 (0, 0)) := World.alloc_heap_new _ _
          have hlz : W6.heap.size < (W6.alloc (.cells #[.int .i64 0, .slice none 0 0, .slice none 0 0, .slice none 0 0] 26)).heap.size := by simp
          refine hK.out _ _ ⟨(blk_cell (blk_below KA.out hb1) 0).trans rfl, (blk_cell (blk_below KA.out hb1) 1).trans rfl, (blk_cell (blk_below KA.out hb1) 2).trans rfl, (blk_cell (blk_below KA.out hb1) 3).trans rfl, (blk_cell (blk_below KB.out hb1) 0).trans rfl, (blk_cell (blk_below KB.out hb1) 1).trans rfl, (blk_cell (blk_below KB.out hb1) 2).trans rfl, (blk_cell (blk_below KB.out hb1) 3).trans rfl, (blk_cell (blk_below KX.out hb1) 0).trans rfl, (blk_cell (blk_below KX.out hb1) 1).trans rfl, (blk_cell (blk_below KX.out hb1) 2).trans rfl, (blk_cell (blk_below KX.out hb1) 3).trans rfl, (blk_cell (blk_below KY.out hb1) 0).trans rfl, (blk_cell (blk_below KY.out hb1) 1).trans rfl, (blk_cell (blk_below KY.out hb1) 2).trans rfl, (blk_cell (blk_below KY.out hb1) 3).trans rfl, trivial⟩ (fun hHeldB => ?_)
          clear hK K
          (refine norm_ (a' := ?_) ?_ ?_; rotate_left; focus (show Act.put _ (some 10) _ = _; simp only [Act.put, List.setIfInBounds_toArray, List.set_cons_zero, List.set_cons_succ]; rfl))
          refine one_ (i := 5) (N := some 43) #[true, true, true, true, true, true, false, false, false, true, false, false] rfl rfl (by kernel_rfl) (by decide) (fun K hK => ?_)
          refine goes_ Try.func11 (by kernel_rfl) rfl #[.agg #[.int .i64 g.f0, .slice E1 g.f1.length e1, .slice E2 g.f2.length e2, .slice E3 g.f3.length e3], .slice Aw q.length cw] (by rfl) rfl rfl (by (try simp only [List.map_toArray, List.map_cons, List.map_nil]); first | done | rfl) ?_
          refine (Find_calls _ g Aw q.length cw q (W6.alloc (.cells #[.int .i64 0, .slice none 0 0, .slice none 0 0, .slice none 0 0] 26)) (RX.out.below hb1).isG (by omega) rfl (C_frontI (R_readsN (Kd.R_below HWY.out hb1)).2)).mono ?_
          rintro e w1 ⟨u, c_, rfl, hr_, hb2⟩
          obtain ⟨hg_, rfl⟩ := hr_.got
          have hb3 : Below W6.heap.size W6 w1 := below_step hb1 hb2
          refine ⟨_, rfl, hK.out _ _ ⟨(blk_cell (blk_below KA.out hb3) 0).trans rfl, (blk_cell (blk_below KA.out hb3) 1).trans rfl, (blk_cell (blk_below KA.out hb3) 2).trans rfl, (blk_cell (blk_below KA.out hb3) 3).trans rfl, (blk_cell (blk_below KB.out hb3) 0).trans rfl, (blk_cell (blk_below KB.out hb3) 1).trans rfl, (blk_cell (blk_below KB.out hb3) 2).trans rfl, (blk_cell (blk_below KB.out hb3) 3).trans rfl, (blk_cell (blk_below KX.out hb3) 0).trans rfl, (blk_cell (blk_below KX.out hb3) 1).trans rfl, (blk_cell (blk_below KX.out hb3) 2).trans rfl, (blk_cell (blk_below KX.out hb3) 3).trans rfl, (blk_cell (blk_below KY.out hb3) 0).trans rfl, (blk_cell (blk_below KY.out hb3) 1).trans rfl, (blk_cell (blk_below KY.out hb3) 2).trans rfl, (blk_cell (blk_below KY.out hb3) 3).trans rfl, trivial⟩ (fun hHeldC => ?_)⟩
          clear hK K
          (refine norm_ (a' := ?_) ?_ ?_; rotate_left; focus (show Act.put _ (some 43) _ = _; simp only [Act.put, List.setIfInBounds_toArray, List.set_cons_zero, List.set_cons_succ]; rfl))
          (refine pure_ (i := 6) (N := some 37) (v := ?_) (a' := ?_) #[true, true, true, true, true, true, true, false, false, true, false, false] rfl rfl (by kernel_rfl) (fun _ _ _ h => h) (Or.inl ⟨by rfl, ?_⟩) ?_ ?_; rotate_left; (focus (intro w'_; go_simp; with_reducible rfl)); rotate_left; (focus (simp only [Act.put, List.setIfInBounds_toArray, List.set_cons_zero, List.set_cons_succ]; rfl)))
          (refine pure_ (i := 7) (N := some 44) (v := ?_) (a' := ?_) #[true, true, true, true, true, true, true, true, false, true, false, false] rfl rfl (by kernel_rfl) (fun _ _ _ h => h) (Or.inl ⟨by rfl, ?_⟩) ?_ ?_; rotate_left; (focus (intro w'_; go_simp; with_reducible rfl)); rotate_left; (focus (simp only [Act.put, List.setIfInBounds_toArray, List.set_cons_zero, List.set_cons_succ]; rfl)))
          (refine pure_ (i := 8) (N := some 45) (v := ?_) (a' := ?_) #[true, true, true, true, true, true, true, true, true, true, false, false] rfl rfl (by kernel_rfl) (fun _ _ _ h => h) (Or.inl ⟨by rfl, ?_⟩) ?_ ?_; rotate_left; (focus (intro w'_; go_simp; with_reducible rfl)); rotate_left; (focus (simp only [Act.put, List.setIfInBounds_toArray, List.set_cons_zero, List.set_cons_succ]; rfl)))
          (have hh_ := (hcont (W6.heap.size, u) _ ⟨hb3, blk_below kz hb2, Nat.le_refl _, hg_.keep2 hlz⟩); simp only [putAll, Act.put, List.setIfInBounds_toArray, List.set_cons_zero, List.set_cons_succ] at hh_ ⊢; exact hh_)
      case hcontU =>
        rintro ⟨gU, uU⟩ w1 ⟨hb_, kz, hle, hkp⟩
        dsimp only at hb_ kz hle hkp
        obtain ⟨U1, yU1, U2, yU2, U3, yU3, rfl, _⟩ := hkp [] 0
        refine norm_ (a' := ?_) ?_ ?_
        rotate_left
        · simp only [putAll, Act.put, List.setIfInBounds_toArray, List.set_cons_zero, List.set_cons_succ]; rfl
        clear hHeld0
        refine last_ (i := 10) (N := none) #[true, true, true, true, true, true, true, true, true, true, true, false] rfl rfl (by kernel_rfl) (by decide) (fun K hK => ?_)
        have hs0 : w1.cell? ⟨gU, 0, none⟩ = some (.int .i64 0) := (blk_cell kz 0).trans rfl
        have hf0 := blk_frozen kz 0
        have hs1 : w1.cell? ⟨gU, 1, none⟩ = some (.slice none 0 0) := (blk_cell kz 1).trans rfl
        have hf1 := blk_frozen kz 1
        have hs2 : w1.cell? ⟨gU, 2, none⟩ = some (.slice none 0 0) := (blk_cell kz 2).trans rfl
        have hf2 := blk_frozen kz 2
        have hs3 : w1.cell? ⟨gU, 3, none⟩ = some (.slice none 0 0) := (blk_cell kz 3).trans rfl
        have hf3 := blk_frozen kz 3
        refine skip_ (w1 := ?_) (by rfl) rfl ?_ ?_
        rotate_left
        · go_simp
          rfl
        refine hK.out _ _ ?_
        clear hK K hs0 hs1 hs2 hs3 hf0 hf1 hf2 hf3
        obtain ⟨W7, hW7_⟩ : ∃ x, x = ((((w1.setCell ⟨gU, 0, none⟩ (.int .i64 (findV g q).f0)).setCell ⟨gU, 1, none⟩ (.slice U1 (findV g q).f1.length yU1)).setCell ⟨gU, 2, none⟩ (.slice U2 (findV g q).f2.length yU2)).setCell ⟨gU, 3, none⟩ (.slice U3 (findV g q).f3.length yU3)) := ⟨_, rfl⟩
        rw [← hW7_]
        have KU := Aside0.mk (show W7.heap[gU]? = some (.cells #[.int .i64 (findV g q).f0, .slice U1 (findV g q).f1.length yU1, .slice U2 (findV g q).f2.length yU2, .slice U3 (findV g q).f3.length yU3] 26 (0, 0)) by rw [hW7_]; simpa using (blk_set (blk_set (blk_set (blk_set kz 0 (.int .i64 (findV g q).f0)) 1 (.slice U1 (findV g q).f1.length yU1)) 2 (.slice U2 (findV g q).f2.length yU2)) 3 (.slice U3 (findV g q).f3.length yU3)))
        have IU := Aside0.mk (show IsG W7 (.agg #[.int .i64 (findV g q).f0, .slice U1 (findV g q).f1.length yU1, .slice U2 (findV g q).f2.length yU2, .slice U3 (findV g q).f3.length yU3]) (findV g q) by rw [hW7_, cells4]; exact hkp _ 0)
        have hb9_ : Below W6.heap.size W6 W7 := by rw [hW7_]; exact ((((hb_.setCell (p := ⟨gU, 0, none⟩) hle _).setCell (p := ⟨gU, 1, none⟩) hle _).setCell (p := ⟨gU, 2, none⟩) hle _).setCell (p := ⟨gU, 3, none⟩) hle _)
        clear hW7_ hb_ kz hle hkp
        have n_ := Aside0.mk (blk_below KA.out hb9_)
        clear KA
        have KA := n_
        clear n_
        have n_ := Aside0.mk (blk_below KB.out hb9_)
        clear KB
        have KB := n_
        clear n_
        have n_ := Aside0.mk (HA.out.below hb9_)
        clear HA
        have HA := n_
        clear n_
        have n_ := Aside0.mk (HG.out.below hb9_)
        clear HG
        have HG := n_
        clear n_
        have n_ := Aside0.mk (below_step HB.out hb9_)
        clear HB
        have HB := n_
        clear n_
        have n_ := Aside0.mk (RX.out.below hb9_)
        clear RX
        have RX := n_
        clear n_
        have n_ := Aside0.mk (blk_below KX.out hb9_)
        clear KX
        have KX := n_
        clear n_
        have n_ := Aside0.mk (RY.out.below hb9_)
        clear RY
        have RY := n_
        clear n_
        have n_ := Aside0.mk (blk_below KY.out hb9_)
        clear KY
        have KY := n_
        clear n_
        have n_ := Aside0.mk (Kd.R_below HWY.out hb9_)
        clear HWY
        have HWY := n_
        clear n_
        clear hb9_
        (refine pure_ (i := 11) (N := some 11) (v := ?_) (a' := ?_) #[true, true, true, true, true, true, true, true, true, true, true, true] rfl rfl (by kernel_rfl) (fun _ _ _ h => h) (Or.inl ⟨by rfl, ?_⟩) ?_ ?_; rotate_left; (focus (intro w'_; go_simp; with_reducible rfl)); rotate_left; (focus (simp only [Act.put, List.setIfInBounds_toArray, List.set_cons_zero, List.set_cons_succ]; rfl)))
        refine done_ (by kernel_rfl) ?_
        have zA0_ : W7.cell? ⟨ga, 0, none⟩ = some (.int .i64 g.f0) := (blk_cell KA.out 0).trans rfl
        have zA1_ : W7.cell? ⟨ga, 1, none⟩ = some (.slice A1 g.f1.length c1) := (blk_cell KA.out 1).trans rfl
        have zA2_ : W7.cell? ⟨ga, 2, none⟩ = some (.slice A2 g.f2.length c2) := (blk_cell KA.out 2).trans rfl
        have zA3_ : W7.cell? ⟨ga, 3, none⟩ = some (.slice A3 g.f3.length c3) := (blk_cell KA.out 3).trans rfl
        have zB0_ : W7.cell? ⟨gb, 0, none⟩ = some (.int .i64 p.f0) := (blk_cell KB.out 0).trans rfl
        have zB1_ : W7.cell? ⟨gb, 1, none⟩ = some (.slice D1 p.f1.length d1) := (blk_cell KB.out 1).trans rfl
        have zB2_ : W7.cell? ⟨gb, 2, none⟩ = some (.slice D2 p.f2.length d2) := (blk_cell KB.out 2).trans rfl
        have zB3_ : W7.cell? ⟨gb, 3, none⟩ = some (.slice D3 p.f3.length d3) := (blk_cell KB.out 3).trans rfl
        have zX0_ : W7.cell? ⟨gx, 0, none⟩ = some (.int .i64 g.f0) := (blk_cell KX.out 0).trans rfl
        have zX1_ : W7.cell? ⟨gx, 1, none⟩ = some (.slice E1 g.f1.length e1) := (blk_cell KX.out 1).trans rfl
        have zX2_ : W7.cell? ⟨gx, 2, none⟩ = some (.slice E2 g.f2.length e2) := (blk_cell KX.out 2).trans rfl
        have zX3_ : W7.cell? ⟨gx, 3, none⟩ = some (.slice E3 g.f3.length e3) := (blk_cell KX.out 3).trans rfl
        have zY0_ : W7.cell? ⟨gy, 0, none⟩ = some (.int .i64 p.f0) := (blk_cell KY.out 0).trans rfl
        have zY1_ : W7.cell? ⟨gy, 1, none⟩ = some (.slice F1 p.f1.length f1) := (blk_cell KY.out 1).trans rfl
        have zY2_ : W7.cell? ⟨gy, 2, none⟩ = some (.slice F2 p.f2.length f2) := (blk_cell KY.out 2).trans rfl
        have zY3_ : W7.cell? ⟨gy, 3, none⟩ = some (.slice F3 p.f3.length f3) := (blk_cell KY.out 3).trans rfl
        have zU0_ : W7.cell? ⟨gU, 0, none⟩ = some (.int .i64 (findV g q).f0) := (blk_cell KU.out 0).trans rfl
        have zU1_ : W7.cell? ⟨gU, 1, none⟩ = some (.slice U1 (findV g q).f1.length yU1) := (blk_cell KU.out 1).trans rfl
        have zU2_ : W7.cell? ⟨gU, 2, none⟩ = some (.slice U2 (findV g q).f2.length yU2) := (blk_cell KU.out 2).trans rfl
        have zU3_ : W7.cell? ⟨gU, 3, none⟩ = some (.slice U3 (findV g q).f3.length yU3) := (blk_cell KU.out 3).trans rfl
        go_wp2_with fail
        clear zA0_ zA1_ zA2_ zA3_ zB0_ zB1_ zB2_ zB3_ zX0_ zX1_ zX2_ zX3_ zY0_ zY1_ zY2_ zY3_ zU0_ zU1_ zU2_ zU3_
        refine (rFind_calls _ g A q.length c q W7 HA.out (by omega) rfl (Kd.C_below HP.out HB.out)).mono ?_
        rintro e W8 ⟨u_, c_, rfl, hr_, hb_⟩
        obtain ⟨hg_, rfl⟩ := hr_.got
        have hI := hg_.isG
        obtain ⟨V1, yV1, V2, yV2, V3, yV3, rfl, _⟩ := hg_.isG
        have IV := Aside0.mk hI
        clear hr_ hg_ hI
        have n_ := Aside0.mk (blk_below KA.out hb_)
        clear KA
        have KA := n_
        clear n_
        have n_ := Aside0.mk (blk_below KB.out hb_)
        clear KB
        have KB := n_
        clear n_
        have n_ := Aside0.mk (HA.out.below hb_)
        clear HA
        have HA := n_
        clear n_
        have n_ := Aside0.mk (HG.out.below hb_)
        clear HG
        have HG := n_
        clear n_
        have n_ := Aside0.mk (below_step HB.out hb_)
        clear HB
        have HB := n_
        clear n_
        have n_ := Aside0.mk (RX.out.below hb_)
        clear RX
        have RX := n_
        clear n_
        have n_ := Aside0.mk (blk_below KX.out hb_)
        clear KX
        have KX := n_
        clear n_
        have n_ := Aside0.mk (RY.out.below hb_)
        clear RY
        have RY := n_
        clear n_
        have n_ := Aside0.mk (blk_below KY.out hb_)
        clear KY
        have KY := n_
        clear n_
        have n_ := Aside0.mk (Kd.R_below HWY.out hb_)
        clear HWY
        have HWY := n_
        clear n_
        have n_ := Aside0.mk (blk_below KU.out hb_)
        clear KU
        have KU := n_
        clear n_
        have n_ := Aside0.mk (IU.out.below hb_)
        clear IU
        have IU := n_
        clear n_
        clear hb_
        go_wp2_with fail
        obtain ⟨gV, hgV_⟩ : ∃ x, x = W8.heap.size := ⟨_, rfl⟩
        obtain ⟨W9, hW9_⟩ : ∃ x, x = W8.alloc (.cells #[.int .i64 (findV g q).f0, .slice V1 (findV g q).f1.length yV1, .slice V2 (findV g q).f2.length yV2, .slice V3 (findV g q).f3.length yV3] 26) := ⟨_, rfl⟩
        rw [← hW9_, ← hgV_]
        have KV := Aside0.mk (show W9.heap[gV]? = some (.cells #[.int .i64 (findV g q).f0, .slice V1 (findV g q).f1.length yV1, .slice V2 (findV g q).f2.length yV2, .slice V3 (findV g q).f3.length yV3] 26 (0, 0)) by rw [hW9_, hgV_]; exact World.alloc_heap_new _ _)
        have hb_ : Below W8.heap.size W8 W9 := by rw [hW9_]; exact below_alloc (Below.refl _ _) _
        clear hW9_ hgV_
        have n_ := Aside0.mk (blk_below KA.out hb_)
        clear KA
        have KA := n_
        clear n_
        have n_ := Aside0.mk (blk_below KB.out hb_)
        clear KB
        have KB := n_
        clear n_
        have n_ := Aside0.mk (HA.out.below hb_)
        clear HA
        have HA := n_
        clear n_
        have n_ := Aside0.mk (HG.out.below hb_)
        clear HG
        have HG := n_
        clear n_
        have n_ := Aside0.mk (below_step HB.out hb_)
        clear HB
        have HB := n_
        clear n_
        have n_ := Aside0.mk (RX.out.below hb_)
        clear RX
        have RX := n_
        clear n_
        have n_ := Aside0.mk (blk_below KX.out hb_)
        clear KX
        have KX := n_
        clear n_
        have n_ := Aside0.mk (RY.out.below hb_)
        clear RY
        have RY := n_
        clear n_
        have n_ := Aside0.mk (blk_below KY.out hb_)
        clear KY
        have KY := n_
        clear n_
        have n_ := Aside0.mk (Kd.R_below HWY.out hb_)
        clear HWY
        have HWY := n_
        clear n_
        have n_ := Aside0.mk (blk_below KU.out hb_)
        clear KU
        have KU := n_
        clear n_
        have n_ := Aside0.mk (IU.out.below hb_)
        clear IU
        have IU := n_
        clear n_
        have n_ := Aside0.mk (IV.out.below hb_)
        clear IV
        have IV := n_
        clear n_
        clear hb_
        refine start_ (n := 13) (S := (fun w' => w'.cell? ⟨ga, 0, none⟩ = some (.int .i64 g.f0) ∧ w'.cell? ⟨ga, 1, none⟩ = some (.slice A1 g.f1.length c1) ∧ w'.cell? ⟨ga, 2, none⟩ = some (.slice A2 g.f2.length c2) ∧ w'.cell? ⟨ga, 3, none⟩ = some (.slice A3 g.f3.length c3) ∧ w'.cell? ⟨gb, 0, none⟩ = some (.int .i64 p.f0) ∧ w'.cell? ⟨gb, 1, none⟩ = some (.slice D1 p.f1.length d1) ∧ w'.cell? ⟨gb, 2, none⟩ = some (.slice D2 p.f2.length d2) ∧ w'.cell? ⟨gb, 3, none⟩ = some (.slice D3 p.f3.length d3) ∧ w'.cell? ⟨gx, 0, none⟩ = some (.int .i64 g.f0) ∧ w'.cell? ⟨gx, 1, none⟩ = some (.slice E1 g.f1.length e1) ∧ w'.cell? ⟨gx, 2, none⟩ = some (.slice E2 g.f2.length e2) ∧ w'.cell? ⟨gx, 3, none⟩ = some (.slice E3 g.f3.length e3) ∧ w'.cell? ⟨gy, 0, none⟩ = some (.int .i64 p.f0) ∧ w'.cell? ⟨gy, 1, none⟩ = some (.slice F1 p.f1.length f1) ∧ w'.cell? ⟨gy, 2, none⟩ = some (.slice F2 p.f2.length f2) ∧ w'.cell? ⟨gy, 3, none⟩ = some (.slice F3 p.f3.length f3) ∧ w'.cell? ⟨gU, 0, none⟩ = some (.int .i64 (findV g q).f0) ∧ w'.cell? ⟨gU, 1, none⟩ = some (.slice U1 (findV g q).f1.length yU1) ∧ w'.cell? ⟨gU, 2, none⟩ = some (.slice U2 (findV g q).f2.length yU2) ∧ w'.cell? ⟨gU, 3, none⟩ = some (.slice U3 (findV g q).f3.length yU3) ∧ w'.cell? ⟨gV, 0, none⟩ = some (.int .i64 (findV g q).f0) ∧ w'.cell? ⟨gV, 1, none⟩ = some (.slice V1 (findV g q).f1.length yV1) ∧ w'.cell? ⟨gV, 2, none⟩ = some (.slice V2 (findV g q).f2.length yV2) ∧ w'.cell? ⟨gV, 3, none⟩ = some (.slice V3 (findV g q).f3.length yV3) ∧ True)) (ds := [11]) #[false, false, false, false, false, false, false, false, false, false, false, false, false] hmx rfl rfl ⟨(blk_cell (w := W9.drew) KA.out 0).trans rfl, (blk_cell (w := W9.drew) KA.out 1).trans rfl, (blk_cell (w := W9.drew) KA.out 2).trans rfl, (blk_cell (w := W9.drew) KA.out 3).trans rfl, (blk_cell (w := W9.drew) KB.out 0).trans rfl, (blk_cell (w := W9.drew) KB.out 1).trans rfl, (blk_cell (w := W9.drew) KB.out 2).trans rfl, (blk_cell (w := W9.drew) KB.out 3).trans rfl, (blk_cell (w := W9.drew) KX.out 0).trans rfl, (blk_cell (w := W9.drew) KX.out 1).trans rfl, (blk_cell (w := W9.drew) KX.out 2).trans rfl, (blk_cell (w := W9.drew) KX.out 3).trans rfl, (blk_cell (w := W9.drew) KY.out 0).trans rfl, (blk_cell (w := W9.drew) KY.out 1).trans rfl, (blk_cell (w := W9.drew) KY.out 2).trans rfl, (blk_cell (w := W9.drew) KY.out 3).trans rfl, (blk_cell (w := W9.drew) KU.out 0).trans rfl, (blk_cell (w := W9.drew) KU.out 1).trans rfl, (blk_cell (w := W9.drew) KU.out 2).trans rfl, (blk_cell (w := W9.drew) KU.out 3).trans rfl, (blk_cell (w := W9.drew) KV.out 0).trans rfl, (blk_cell (w := W9.drew) KV.out 1).trans rfl, (blk_cell (w := W9.drew) KV.out 2).trans rfl, (blk_cell (w := W9.drew) KV.out 3).trans rfl, trivial⟩ (fun hHeld0 => ?_)
        have n_ := Aside0.mk (blk_below KA.out (below_drew (Below.refl W9.heap.size W9)))
        clear KA
        have KA := n_
        clear n_
        have n_ := Aside0.mk (blk_below KB.out (below_drew (Below.refl W9.heap.size W9)))
        clear KB
        have KB := n_
        clear n_
        have n_ := Aside0.mk (HA.out.below (below_drew (Below.refl W9.heap.size W9)))
        clear HA
        have HA := n_
        clear n_
        have n_ := Aside0.mk (HG.out.below (below_drew (Below.refl W9.heap.size W9)))
        clear HG
        have HG := n_
        clear n_
        have n_ := Aside0.mk (below_step HB.out (below_drew (Below.refl W9.heap.size W9)))
        clear HB
        have HB := n_
        clear n_
        have n_ := Aside0.mk (RX.out.below (below_drew (Below.refl W9.heap.size W9)))
        clear RX
        have RX := n_
        clear n_
        have n_ := Aside0.mk (blk_below KX.out (below_drew (Below.refl W9.heap.size W9)))
        clear KX
        have KX := n_
        clear n_
        have n_ := Aside0.mk (RY.out.below (below_drew (Below.refl W9.heap.size W9)))
        clear RY
        have RY := n_
        clear n_
        have n_ := Aside0.mk (blk_below KY.out (below_drew (Below.refl W9.heap.size W9)))
        clear KY
        have KY := n_
        clear n_
        have n_ := Aside0.mk (Kd.R_below HWY.out (below_drew (Below.refl W9.heap.size W9)))
        clear HWY
        have HWY := n_
        clear n_
        have n_ := Aside0.mk (blk_below KU.out (below_drew (Below.refl W9.heap.size W9)))
        clear KU
        have KU := n_
        clear n_
        have n_ := Aside0.mk (IU.out.below (below_drew (Below.refl W9.heap.size W9)))
        clear IU
        have IU := n_
        clear n_
        have n_ := Aside0.mk (IV.out.below (below_drew (Below.refl W9.heap.size W9)))
        clear IV
        have IV := n_
        clear n_
        have n_ := Aside0.mk (blk_below KV.out (below_drew (Below.refl W9.heap.size W9)))
        clear KV
        have KV := n_
        clear n_
        generalize W9.drew = W10 at KA KB HA HG HB RX KX RY KY HWY KU IU IV KV hHeld0 ⊢
        (refine take_ (i := 0) (N := some 53) (v := ?_) (a' := ?_) #[true, false, false, false, false, false, false, false, false, false, false, false, false] rfl rfl (by kernel_rfl) (fun _ _ _ h => h) (Or.inl ⟨by rfl, ?_⟩) hHeld0 ?_ ?_; rotate_left; (focus (intro w'_ hs_; (repeat obtain ⟨_, hs_⟩ := hs_); go_simp; with_reducible rfl)); rotate_left; (focus (simp only [Act.put, List.setIfInBounds_toArray, List.set_cons_zero, List.set_cons_succ]; rfl)))
        (refine pure_ (i := 1) (N := some 54) (v := ?_) (a' := ?_) #[true, true, false, false, false, false, false, false, false, false, false, false, false] rfl rfl (by kernel_rfl) (fun _ _ _ h => h) (Or.inl ⟨by rfl, ?_⟩) ?_ ?_; rotate_left; (focus (intro w'_; go_simp; with_reducible rfl)); rotate_left; (focus (simp only [Act.put, List.setIfInBounds_toArray, List.set_cons_zero, List.set_cons_succ]; rfl)))
        (refine pure_ (i := 2) (N := some 55) (v := ?_) (a' := ?_) #[true, true, true, false, false, false, false, false, false, false, false, false, false] rfl rfl (by kernel_rfl) (fun _ _ _ h => h) (Or.inl ⟨by rfl, ?_⟩) ?_ ?_; rotate_left; (focus (intro w'_; go_simp; with_reducible rfl)); rotate_left; (focus (simp only [Act.put, List.setIfInBounds_toArray, List.set_cons_zero, List.set_cons_succ]; rfl)))
        (refine pure_ (i := 3) (N := some 56) (v := ?_) (a' := ?_) #[true, true, true, true, false, false, false, false, false, false, false, false, false] rfl rfl (by kernel_rfl) (fun _ _ _ h => h) (Or.inl ⟨by rfl, ?_⟩) ?_ ?_; rotate_left; (focus (intro w'_; go_simp; with_reducible rfl)); rotate_left; (focus (simp only [Act.put, List.setIfInBounds_toArray, List.set_cons_zero, List.set_cons_succ]; rfl)))
        (refine pure_ (i := 4) (N := some 57) (v := ?_) (a' := ?_) #[true, true, true, true, true, false, false, false, false, false, false, false, false] rfl rfl (by kernel_rfl) (fun _ _ _ h => h) (Or.inl ⟨by rfl, ?_⟩) ?_ ?_; rotate_left; (focus (intro w'_; go_simp; with_reducible rfl)); rotate_left; (focus (simp only [Act.put, List.setIfInBounds_toArray, List.set_cons_zero, List.set_cons_succ]; rfl)))
        (refine take_ (i := 5) (N := some 58) (v := ?_) (a' := ?_) #[true, true, true, true, true, true, false, false, false, false, false, false, false] rfl rfl (by kernel_rfl) (fun _ _ _ h => h) (Or.inl ⟨by rfl, ?_⟩) hHeld0 ?_ ?_; rotate_left; (focus (intro w'_ hs_; (repeat obtain ⟨_, hs_⟩ := hs_); go_simp; with_reducible rfl)); rotate_left; (focus (simp only [Act.put, List.setIfInBounds_toArray, List.set_cons_zero, List.set_cons_succ]; rfl)))
        refine join_ (σ := Nat × Value) 2 #[true, true, true, true, true, true, true, true, true, true, true, false, false] (fun s => [(59, .tuple #[s.2, .int .i64 (findC g q)]), (52, .tuple #[s.2, .int .i64 (findC g q)]), (60, s.2), (61, .int .i64 (findC g q)), (14, .pointer (some ⟨s.1, 0, none⟩))]) (fun s w' => Below W10.heap.size W10 w' ∧ w'.heap[s.1]? = some (.cells #[.int .i64 0, .slice none 0 0, .slice none 0 0, .slice none 0 0] 26 (0, 0)) ∧ W10.heap.size ≤ s.1 ∧ KeepG w' s.1 s.2 (putV g q p)) ?hcontS ?hwaysS
        case hwaysS =>
          intro hcont
          refine two_ (i := 6) (j := 10) #[true, true, true, true, true, true, true, false, false, false, false, false, false] #[true, true, true, true, true, true, false, false, false, false, true, false, false] rfl rfl rfl rfl (by kernel_rfl) (by decide) (by decide) (fun K hK => ?_) (fun K hK => ?_)
          · refine goes_ Try.func13 (by kernel_rfl) rfl #[.agg #[.int .i64 g.f0, .slice E1 g.f1.length e1, .slice E2 g.f2.length e2, .slice E3 g.f3.length e3], .slice Aw q.length cw, .agg #[.int .i64 p.f0, .slice F1 p.f1.length f1, .slice F2 p.f2.length f2, .slice F3 p.f3.length f3]] (by rfl) rfl rfl (by (try simp only [List.map_toArray, List.map_cons, List.map_nil]); first | done | rfl) ?_
            refine (Put_calls _ _ g p Aw q.length cw q W10 RX.out.isG RY.out.isG (by omega) rfl (C_frontI (R_readsN HWY.out).2)).mono ?_
            rintro e w1 ⟨u, c_, rfl, hr_, hb1⟩
            obtain ⟨hg_, rfl⟩ := hr_.got
            refine ⟨_, rfl, hK.out _ _ ⟨(blk_cell (blk_below KA.out hb1) 0).trans rfl, (blk_cell (blk_below KA.out hb1) 1).trans rfl, (blk_cell (blk_below KA.out hb1) 2).trans rfl, (blk_cell (blk_below KA.out hb1) 3).trans rfl, (blk_cell (blk_below KB.out hb1) 0).trans rfl, (blk_cell (blk_below KB.out hb1) 1).trans rfl, (blk_cell (blk_below KB.out hb1) 2).trans rfl, (blk_cell (blk_below KB.out hb1) 3).trans rfl, (blk_cell (blk_below KX.out hb1) 0).trans rfl, (blk_cell (blk_below KX.out hb1) 1).trans rfl, (blk_cell (blk_below KX.out hb1) 2).trans rfl, (blk_cell (blk_below KX.out hb1) 3).trans rfl, (blk_cell (blk_below KY.out hb1) 0).trans rfl, (blk_cell (blk_below KY.out hb1) 1).trans rfl, (blk_cell (blk_below KY.out hb1) 2).trans rfl, (blk_cell (blk_below KY.out hb1) 3).trans rfl, (blk_cell (blk_below KU.out hb1) 0).trans rfl, (blk_cell (blk_below KU.out hb1) 1).trans rfl, (blk_cell (blk_below KU.out hb1) 2).trans rfl, (blk_cell (blk_below KU.out hb1) 3).trans rfl, (blk_cell (blk_below KV.out hb1) 0).trans rfl, (blk_cell (blk_below KV.out hb1) 1).trans rfl, (blk_cell (blk_below KV.out hb1) 2).trans rfl, (blk_cell (blk_below KV.out hb1) 3).trans rfl, trivial⟩ (fun hHeldB => ?_)⟩
            clear hK K
            (refine norm_ (a' := ?_) ?_ ?_; rotate_left; focus (show Act.put _ (some 59) _ = _; simp only [Act.put, List.setIfInBounds_toArray, List.set_cons_zero, List.set_cons_succ]; rfl))
            (refine pure_ (i := 7) (N := some 52) (v := ?_) (a' := ?_) #[true, true, true, true, true, true, true, true, false, false, false, false, false] rfl rfl (by kernel_rfl) (fun _ _ _ h => h) (Or.inl ⟨by rfl, ?_⟩) ?_ ?_; rotate_left; (focus (intro w'_; go_simp; with_reducible rfl)); rotate_left; (focus (simp only [Act.put, List.setIfInBounds_toArray, List.set_cons_zero, List.set_cons_succ]; rfl)))
            (refine pure_ (i := 8) (N := some 60) (v := ?_) (a' := ?_) #[true, true, true, true, true, true, true, true, true, false, false, false, false] rfl rfl (by kernel_rfl) (fun _ _ _ h => h) (Or.inl ⟨by rfl, ?_⟩) ?_ ?_; rotate_left; (focus (intro w'_; go_simp; with_reducible rfl)); rotate_left; (focus (simp only [Act.put, List.setIfInBounds_toArray, List.set_cons_zero, List.set_cons_succ]; rfl)))
            (refine pure_ (i := 9) (N := some 61) (v := ?_) (a' := ?_) #[true, true, true, true, true, true, true, true, true, true, false, false, false] rfl rfl (by kernel_rfl) (fun _ _ _ h => h) (Or.inl ⟨by rfl, ?_⟩) ?_ ?_; rotate_left; (focus (intro w'_; go_simp; with_reducible rfl)); rotate_left; (focus (simp only [Act.put, List.setIfInBounds_toArray, List.set_cons_zero, List.set_cons_succ]; rfl)))
            refine one_ (i := 10) (N := some 14) #[true, true, true, true, true, true, true, true, true, true, true, false, false] rfl rfl (by kernel_rfl) (by decide) (fun K hK => ?_)
            (refine value_ (w1 := ?_) (v := ?_) (by rfl) rfl ?_ ?_; rotate_left 2; (focus (go_simp; constructor <;> rfl)))
            have hb2 : Below W10.heap.size W10 (w1.alloc (.cells #[.int .i64 0, .slice none 0 0, .slice none 0 0, .slice none 0 0] 26)) := below_alloc hb1 _
            refine hK.out _ _ ⟨(blk_cell (blk_below KA.out hb2) 0).trans rfl, (blk_cell (blk_below KA.out hb2) 1).trans rfl, (blk_cell (blk_below KA.out hb2) 2).trans rfl, (blk_cell (blk_below KA.out hb2) 3).trans rfl, (blk_cell (blk_below KB.out hb2) 0).trans rfl, (blk_cell (blk_below KB.out hb2) 1).trans rfl, (blk_cell (blk_below KB.out hb2) 2).trans rfl, (blk_cell (blk_below KB.out hb2) 3).trans rfl, (blk_cell (blk_below KX.out hb2) 0).trans rfl, (blk_cell (blk_below KX.out hb2) 1).trans rfl, (blk_cell (blk_below KX.out hb2) 2).trans rfl, (blk_cell (blk_below KX.out hb2) 3).trans rfl, (blk_cell (blk_below KY.out hb2) 0).trans rfl, (blk_cell (blk_below KY.out hb2) 1).trans rfl, (blk_cell (blk_below KY.out hb2) 2).trans rfl, (blk_cell (blk_below KY.out hb2) 3).trans rfl, (blk_cell (blk_below KU.out hb2) 0).trans rfl, (blk_cell (blk_below KU.out hb2) 1).trans rfl, (blk_cell (blk_below KU.out hb2) 2).trans rfl, (blk_cell (blk_below KU.out hb2) 3).trans rfl, (blk_cell (blk_below KV.out hb2) 0).trans rfl, (blk_cell (blk_below KV.out hb2) 1).trans rfl, (blk_cell (blk_below KV.out hb2) 2).trans rfl, (blk_cell (blk_below KV.out hb2) 3).trans rfl, trivial⟩ (fun hHeldC => ?_)
            (have hh_ := (hcont (w1.heap.size, u) _ ⟨hb2, World.alloc_heap_new _ _, hb1.size, hg_.keep1 _⟩); simp only [putAll, Act.put, List.setIfInBounds_toArray, List.set_cons_zero, List.set_cons_succ] at hh_ ⊢; exact hh_)
          · (refine value_ (w1 := ?_) (v := ?_) (by rfl) rfl ?_ ?_; rotate_left 2; (focus (go_simp; constructor <;> rfl)))
            have hb1 : Below W10.heap.size W10 (W10.alloc (.cells #[.int .i64 0, .slice none 0 0, .slice none 0 0, .slice none 0 0] 26)) := below_alloc (Below.refl _ _) _
            have kz : (W10.alloc (.cells #[.int .i64 0, .slice none 0 0, .slice none 0 0, .slice none 0 0] 26)).heap[W10.heap.size]? = some (.cells #[.int .i64 0, .slice none 0 0, .slice none 0 0, .slice none 0 0] 26 (0, 0)) := World.alloc_heap_new _ _
            have hlz : W10.heap.size < (W10.alloc (.cells #[.int .i64 0, .slice none 0 0, .slice none 0 0, .slice none 0 0] 26)).heap.size := by simp
            refine hK.out _ _ ⟨(blk_cell (blk_below KA.out hb1) 0).trans rfl, (blk_cell (blk_below KA.out hb1) 1).trans rfl, (blk_cell (blk_below KA.out hb1) 2).trans rfl, (blk_cell (blk_below KA.out hb1) 3).trans rfl, (blk_cell (blk_below KB.out hb1) 0).trans rfl, (blk_cell (blk_below KB.out hb1) 1).trans rfl, (blk_cell (blk_below KB.out hb1) 2).trans rfl, (blk_cell (blk_below KB.out hb1) 3).trans rfl, (blk_cell (blk_below KX.out hb1) 0).trans rfl, (blk_cell (blk_below KX.out hb1) 1).trans rfl, (blk_cell (blk_below KX.out hb1) 2).trans rfl, (blk_cell (blk_below KX.out hb1) 3).trans rfl, (blk_cell (blk_below KY.out hb1) 0).trans rfl, (blk_cell (blk_below KY.out hb1) 1).trans rfl, (blk_cell (blk_below KY.out hb1) 2).trans rfl, (blk_cell (blk_below KY.out hb1) 3).trans rfl, (blk_cell (blk_below KU.out hb1) 0).trans rfl, (blk_cell (blk_below KU.out hb1) 1).trans rfl, (blk_cell (blk_below KU.out hb1) 2).trans rfl, (blk_cell (blk_below KU.out hb1) 3).trans rfl, (blk_cell (blk_below KV.out hb1) 0).trans rfl, (blk_cell (blk_below KV.out hb1) 1).trans rfl, (blk_cell (blk_below KV.out hb1) 2).trans rfl, (blk_cell (blk_below KV.out hb1) 3).trans rfl, trivial⟩ (fun hHeldB => ?_)
            clear hK K
            (refine norm_ (a' := ?_) ?_ ?_; rotate_left; focus (show Act.put _ (some 14) _ = _; simp only [Act.put, List.setIfInBounds_toArray, List.set_cons_zero, List.set_cons_succ]; rfl))
            refine one_ (i := 6) (N := some 59) #[true, true, true, true, true, true, true, false, false, false, true, false, false] rfl rfl (by kernel_rfl) (by decide) (fun K hK => ?_)
            refine goes_ Try.func13 (by kernel_rfl) rfl #[.agg #[.int .i64 g.f0, .slice E1 g.f1.length e1, .slice E2 g.f2.length e2, .slice E3 g.f3.length e3], .slice Aw q.length cw, .agg #[.int .i64 p.f0, .slice F1 p.f1.length f1, .slice F2 p.f2.length f2, .slice F3 p.f3.length f3]] (by rfl) rfl rfl (by (try simp only [List.map_toArray, List.map_cons, List.map_nil]); first | done | rfl) ?_
            refine (Put_calls _ _ g p Aw q.length cw q (W10.alloc (.cells #[.int .i64 0, .slice none 0 0, .slice none 0 0, .slice none 0 0] 26)) (RX.out.below hb1).isG (RY.out.below hb1).isG (by omega) rfl (C_frontI (R_readsN (Kd.R_below HWY.out hb1)).2)).mono ?_
            rintro e w1 ⟨u, c_, rfl, hr_, hb2⟩
            obtain ⟨hg_, rfl⟩ := hr_.got
            have hb3 : Below W10.heap.size W10 w1 := below_step hb1 hb2
            refine ⟨_, rfl, hK.out _ _ ⟨(blk_cell (blk_below KA.out hb3) 0).trans rfl, (blk_cell (blk_below KA.out hb3) 1).trans rfl, (blk_cell (blk_below KA.out hb3) 2).trans rfl, (blk_cell (blk_below KA.out hb3) 3).trans rfl, (blk_cell (blk_below KB.out hb3) 0).trans rfl, (blk_cell (blk_below KB.out hb3) 1).trans rfl, (blk_cell (blk_below KB.out hb3) 2).trans rfl, (blk_cell (blk_below KB.out hb3) 3).trans rfl, (blk_cell (blk_below KX.out hb3) 0).trans rfl, (blk_cell (blk_below KX.out hb3) 1).trans rfl, (blk_cell (blk_below KX.out hb3) 2).trans rfl, (blk_cell (blk_below KX.out hb3) 3).trans rfl, (blk_cell (blk_below KY.out hb3) 0).trans rfl, (blk_cell (blk_below KY.out hb3) 1).trans rfl, (blk_cell (blk_below KY.out hb3) 2).trans rfl, (blk_cell (blk_below KY.out hb3) 3).trans rfl, (blk_cell (blk_below KU.out hb3) 0).trans rfl, (blk_cell (blk_below KU.out hb3) 1).trans rfl, (blk_cell (blk_below KU.out hb3) 2).trans rfl, (blk_cell (blk_below KU.out hb3) 3).trans rfl, (blk_cell (blk_below KV.out hb3) 0).trans rfl, (blk_cell (blk_below KV.out hb3) 1).trans rfl, (blk_cell (blk_below KV.out hb3) 2).trans rfl, (blk_cell (blk_below KV.out hb3) 3).trans rfl, trivial⟩ (fun hHeldC => ?_)⟩
            clear hK K
            (refine norm_ (a' := ?_) ?_ ?_; rotate_left; focus (show Act.put _ (some 59) _ = _; simp only [Act.put, List.setIfInBounds_toArray, List.set_cons_zero, List.set_cons_succ]; rfl))
            (refine pure_ (i := 7) (N := some 52) (v := ?_) (a' := ?_) #[true, true, true, true, true, true, true, true, false, false, true, false, false] rfl rfl (by kernel_rfl) (fun _ _ _ h => h) (Or.inl ⟨by rfl, ?_⟩) ?_ ?_; rotate_left; (focus (intro w'_; go_simp; with_reducible rfl)); rotate_left; (focus (simp only [Act.put, List.setIfInBounds_toArray, List.set_cons_zero, List.set_cons_succ]; rfl)))
            (refine pure_ (i := 8) (N := some 60) (v := ?_) (a' := ?_) #[true, true, true, true, true, true, true, true, true, false, true, false, false] rfl rfl (by kernel_rfl) (fun _ _ _ h => h) (Or.inl ⟨by rfl, ?_⟩) ?_ ?_; rotate_left; (focus (intro w'_; go_simp; with_reducible rfl)); rotate_left; (focus (simp only [Act.put, List.setIfInBounds_toArray, List.set_cons_zero, List.set_cons_succ]; rfl)))
            (refine pure_ (i := 9) (N := some 61) (v := ?_) (a' := ?_) #[true, true, true, true, true, true, true, true, true, true, true, false, false] rfl rfl (by kernel_rfl) (fun _ _ _ h => h) (Or.inl ⟨by rfl, ?_⟩) ?_ ?_; rotate_left; (focus (intro w'_; go_simp; with_reducible rfl)); rotate_left; (focus (simp only [Act.put, List.setIfInBounds_toArray, List.set_cons_zero, List.set_cons_succ]; rfl)))
            (have hh_ := (hcont (W10.heap.size, u) _ ⟨hb3, blk_below kz hb2, Nat.le_refl _, hg_.keep2 hlz⟩); simp only [putAll, Act.put, List.setIfInBounds_toArray, List.set_cons_zero, List.set_cons_succ] at hh_ ⊢; exact hh_)
        case hcontS =>
          rintro ⟨gS, uS⟩ w1 ⟨hb_, kz, hle, hkp⟩
          dsimp only at hb_ kz hle hkp
          obtain ⟨S1, yS1, S2, yS2, S3, yS3, rfl, _⟩ := hkp [] 0
          refine norm_ (a' := ?_) ?_ ?_
          rotate_left
          · simp only [putAll, Act.put, List.setIfInBounds_toArray, List.set_cons_zero, List.set_cons_succ]; rfl
          clear hHeld0
          refine last_ (i := 11) (N := none) #[true, true, true, true, true, true, true, true, true, true, true, true, false] rfl rfl (by kernel_rfl) (by decide) (fun K hK => ?_)
          have hs0 : w1.cell? ⟨gS, 0, none⟩ = some (.int .i64 0) := (blk_cell kz 0).trans rfl
          have hf0 := blk_frozen kz 0
          have hs1 : w1.cell? ⟨gS, 1, none⟩ = some (.slice none 0 0) := (blk_cell kz 1).trans rfl
          have hf1 := blk_frozen kz 1
          have hs2 : w1.cell? ⟨gS, 2, none⟩ = some (.slice none 0 0) := (blk_cell kz 2).trans rfl
          have hf2 := blk_frozen kz 2
          have hs3 : w1.cell? ⟨gS, 3, none⟩ = some (.slice none 0 0) := (blk_cell kz 3).trans rfl
          have hf3 := blk_frozen kz 3
          refine skip_ (w1 := ?_) (by rfl) rfl ?_ ?_
          rotate_left
          · go_simp
            rfl
          refine hK.out _ _ ?_
          clear hK K hs0 hs1 hs2 hs3 hf0 hf1 hf2 hf3
          obtain ⟨W11, hW11_⟩ : ∃ x, x = ((((w1.setCell ⟨gS, 0, none⟩ (.int .i64 (putV g q p).f0)).setCell ⟨gS, 1, none⟩ (.slice S1 (putV g q p).f1.length yS1)).setCell ⟨gS, 2, none⟩ (.slice S2 (putV g q p).f2.length yS2)).setCell ⟨gS, 3, none⟩ (.slice S3 (putV g q p).f3.length yS3)) := ⟨_, rfl⟩
          rw [← hW11_]
          have KS := Aside0.mk (show W11.heap[gS]? = some (.cells #[.int .i64 (putV g q p).f0, .slice S1 (putV g q p).f1.length yS1, .slice S2 (putV g q p).f2.length yS2, .slice S3 (putV g q p).f3.length yS3] 26 (0, 0)) by rw [hW11_]; simpa using (blk_set (blk_set (blk_set (blk_set kz 0 (.int .i64 (putV g q p).f0)) 1 (.slice S1 (putV g q p).f1.length yS1)) 2 (.slice S2 (putV g q p).f2.length yS2)) 3 (.slice S3 (putV g q p).f3.length yS3)))
          have IS := Aside0.mk (show IsG W11 (.agg #[.int .i64 (putV g q p).f0, .slice S1 (putV g q p).f1.length yS1, .slice S2 (putV g q p).f2.length yS2, .slice S3 (putV g q p).f3.length yS3]) (putV g q p) by rw [hW11_, cells4]; exact hkp _ 0)
          have hb9_ : Below W10.heap.size W10 W11 := by rw [hW11_]; exact ((((hb_.setCell (p := ⟨gS, 0, none⟩) hle _).setCell (p := ⟨gS, 1, none⟩) hle _).setCell (p := ⟨gS, 2, none⟩) hle _).setCell (p := ⟨gS, 3, none⟩) hle _)
          clear hW11_ hb_ kz hle hkp
          have n_ := Aside0.mk (blk_below KA.out hb9_)
          clear KA
          have KA := n_
          clear n_
          have n_ := Aside0.mk (blk_below KB.out hb9_)
          clear KB
          have KB := n_
          clear n_
          have n_ := Aside0.mk (HA.out.below hb9_)
          clear HA
          have HA := n_
          clear n_
          have n_ := Aside0.mk (HG.out.below hb9_)
          clear HG
          have HG := n_
          clear n_
          have n_ := Aside0.mk (below_step HB.out hb9_)
          clear HB
          have HB := n_
          clear n_
          have n_ := Aside0.mk (RX.out.below hb9_)
          clear RX
          have RX := n_
          clear n_
          have n_ := Aside0.mk (blk_below KX.out hb9_)
          clear KX
          have KX := n_
          clear n_
          have n_ := Aside0.mk (RY.out.below hb9_)
          clear RY
          have RY := n_
          clear n_
          have n_ := Aside0.mk (blk_below KY.out hb9_)
          clear KY
          have KY := n_
          clear n_
          have n_ := Aside0.mk (Kd.R_below HWY.out hb9_)
          clear HWY
          have HWY := n_
          clear n_
          have n_ := Aside0.mk (blk_below KU.out hb9_)
          clear KU
          have KU := n_
          clear n_
          have n_ := Aside0.mk (IU.out.below hb9_)
          clear IU
          have IU := n_
          clear n_
          have n_ := Aside0.mk (IV.out.below hb9_)
          clear IV
          have IV := n_
          clear n_
          have n_ := Aside0.mk (blk_below KV.out hb9_)
          clear KV
          have KV := n_
          clear n_
          clear hb9_
          (refine pure_ (i := 12) (N := some 15) (v := ?_) (a' := ?_) #[true, true, true, true, true, true, true, true, true, true, true, true, true] rfl rfl (by kernel_rfl) (fun _ _ _ h => h) (Or.inl ⟨by rfl, ?_⟩) ?_ ?_; rotate_left; (focus (intro w'_; go_simp; with_reducible rfl)); rotate_left; (focus (simp only [Act.put, List.setIfInBounds_toArray, List.set_cons_zero, List.set_cons_succ]; rfl)))
          refine done_ (by kernel_rfl) ?_
          have zA0_ : W11.cell? ⟨ga, 0, none⟩ = some (.int .i64 g.f0) := (blk_cell KA.out 0).trans rfl
          have zA1_ : W11.cell? ⟨ga, 1, none⟩ = some (.slice A1 g.f1.length c1) := (blk_cell KA.out 1).trans rfl
          have zA2_ : W11.cell? ⟨ga, 2, none⟩ = some (.slice A2 g.f2.length c2) := (blk_cell KA.out 2).trans rfl
          have zA3_ : W11.cell? ⟨ga, 3, none⟩ = some (.slice A3 g.f3.length c3) := (blk_cell KA.out 3).trans rfl
          have zB0_ : W11.cell? ⟨gb, 0, none⟩ = some (.int .i64 p.f0) := (blk_cell KB.out 0).trans rfl
          have zB1_ : W11.cell? ⟨gb, 1, none⟩ = some (.slice D1 p.f1.length d1) := (blk_cell KB.out 1).trans rfl
          have zB2_ : W11.cell? ⟨gb, 2, none⟩ = some (.slice D2 p.f2.length d2) := (blk_cell KB.out 2).trans rfl
          have zB3_ : W11.cell? ⟨gb, 3, none⟩ = some (.slice D3 p.f3.length d3) := (blk_cell KB.out 3).trans rfl
          have zX0_ : W11.cell? ⟨gx, 0, none⟩ = some (.int .i64 g.f0) := (blk_cell KX.out 0).trans rfl
          have zX1_ : W11.cell? ⟨gx, 1, none⟩ = some (.slice E1 g.f1.length e1) := (blk_cell KX.out 1).trans rfl
          have zX2_ : W11.cell? ⟨gx, 2, none⟩ = some (.slice E2 g.f2.length e2) := (blk_cell KX.out 2).trans rfl
          have zX3_ : W11.cell? ⟨gx, 3, none⟩ = some (.slice E3 g.f3.length e3) := (blk_cell KX.out 3).trans rfl
          have zY0_ : W11.cell? ⟨gy, 0, none⟩ = some (.int .i64 p.f0) := (blk_cell KY.out 0).trans rfl
          have zY1_ : W11.cell? ⟨gy, 1, none⟩ = some (.slice F1 p.f1.length f1) := (blk_cell KY.out 1).trans rfl
          have zY2_ : W11.cell? ⟨gy, 2, none⟩ = some (.slice F2 p.f2.length f2) := (blk_cell KY.out 2).trans rfl
          have zY3_ : W11.cell? ⟨gy, 3, none⟩ = some (.slice F3 p.f3.length f3) := (blk_cell KY.out 3).trans rfl
          have zU0_ : W11.cell? ⟨gU, 0, none⟩ = some (.int .i64 (findV g q).f0) := (blk_cell KU.out 0).trans rfl
          have zU1_ : W11.cell? ⟨gU, 1, none⟩ = some (.slice U1 (findV g q).f1.length yU1) := (blk_cell KU.out 1).trans rfl
          have zU2_ : W11.cell? ⟨gU, 2, none⟩ = some (.slice U2 (findV g q).f2.length yU2) := (blk_cell KU.out 2).trans rfl
          have zU3_ : W11.cell? ⟨gU, 3, none⟩ = some (.slice U3 (findV g q).f3.length yU3) := (blk_cell KU.out 3).trans rfl
          have zV0_ : W11.cell? ⟨gV, 0, none⟩ = some (.int .i64 (findV g q).f0) := (blk_cell KV.out 0).trans rfl
          have zV1_ : W11.cell? ⟨gV, 1, none⟩ = some (.slice V1 (findV g q).f1.length yV1) := (blk_cell KV.out 1).trans rfl
          have zV2_ : W11.cell? ⟨gV, 2, none⟩ = some (.slice V2 (findV g q).f2.length yV2) := (blk_cell KV.out 2).trans rfl
          have zV3_ : W11.cell? ⟨gV, 3, none⟩ = some (.slice V3 (findV g q).f3.length yV3) := (blk_cell KV.out 3).trans rfl
          have zS0_ : W11.cell? ⟨gS, 0, none⟩ = some (.int .i64 (putV g q p).f0) := (blk_cell KS.out 0).trans rfl
          have zS1_ : W11.cell? ⟨gS, 1, none⟩ = some (.slice S1 (putV g q p).f1.length yS1) := (blk_cell KS.out 1).trans rfl
          have zS2_ : W11.cell? ⟨gS, 2, none⟩ = some (.slice S2 (putV g q p).f2.length yS2) := (blk_cell KS.out 2).trans rfl
          have zS3_ : W11.cell? ⟨gS, 3, none⟩ = some (.slice S3 (putV g q p).f3.length yS3) := (blk_cell KS.out 3).trans rfl
          go_wp2_with fail
          clear zA0_ zA1_ zA2_ zA3_ zB0_ zB1_ zB2_ zB3_ zX0_ zX1_ zX2_ zX3_ zY0_ zY1_ zY2_ zY3_ zU0_ zU1_ zU2_ zU3_ zV0_ zV1_ zV2_ zV3_ zS0_ zS1_ zS2_ zS3_
          refine (rPut_calls q (g.bulk + p.bulk) _ _ g p A q.length c W11 HA.out HG.out (Nat.le_refl _) (by omega) rfl HC.out (Kd.C_below HP.out HB.out)).mono ?_
          rintro e W12 ⟨u_, c_, rfl, hr_, hb_⟩
          obtain ⟨hg_, rfl⟩ := hr_.got
          have hI := hg_.isG
          obtain ⟨Z1, yZ1, Z2, yZ2, Z3, yZ3, rfl, _⟩ := hg_.isG
          have IZ := Aside0.mk hI
          clear hr_ hg_ hI
          have n_ := Aside0.mk (blk_below KA.out hb_)
          clear KA
          have KA := n_
          clear n_
          have n_ := Aside0.mk (blk_below KB.out hb_)
          clear KB
          have KB := n_
          clear n_
          have n_ := Aside0.mk (HA.out.below hb_)
          clear HA
          have HA := n_
          clear n_
          have n_ := Aside0.mk (HG.out.below hb_)
          clear HG
          have HG := n_
          clear n_
          have n_ := Aside0.mk (below_step HB.out hb_)
          clear HB
          have HB := n_
          clear n_
          have n_ := Aside0.mk (RX.out.below hb_)
          clear RX
          have RX := n_
          clear n_
          have n_ := Aside0.mk (blk_below KX.out hb_)
          clear KX
          have KX := n_
          clear n_
          have n_ := Aside0.mk (RY.out.below hb_)
          clear RY
          have RY := n_
          clear n_
          have n_ := Aside0.mk (blk_below KY.out hb_)
          clear KY
          have KY := n_
          clear n_
          have n_ := Aside0.mk (Kd.R_below HWY.out hb_)
          clear HWY
          have HWY := n_
          clear n_
          have n_ := Aside0.mk (blk_below KU.out hb_)
          clear KU
          have KU := n_
          clear n_
          have n_ := Aside0.mk (IU.out.below hb_)
          clear IU
          have IU := n_
          clear n_
          have n_ := Aside0.mk (IV.out.below hb_)
          clear IV
          have IV := n_
          clear n_
          have n_ := Aside0.mk (blk_below KV.out hb_)
          clear KV
          have KV := n_
          clear n_
          have n_ := Aside0.mk (blk_below KS.out hb_)
          clear KS
          have KS := n_
          clear n_
          have n_ := Aside0.mk (IS.out.below hb_)
          clear IS
          have IS := n_
          clear n_
          clear hb_
          go_wp2_with fail
          obtain ⟨gZ, hgZ_⟩ : ∃ x, x = W12.heap.size := ⟨_, rfl⟩
          obtain ⟨W13, hW13_⟩ : ∃ x, x = W12.alloc (.cells #[.int .i64 (putV g q p).f0, .slice Z1 (putV g q p).f1.length yZ1, .slice Z2 (putV g q p).f2.length yZ2, .slice Z3 (putV g q p).f3.length yZ3] 26) := ⟨_, rfl⟩
          rw [← hW13_, ← hgZ_]
          have KZ := Aside0.mk (show W13.heap[gZ]? = some (.cells #[.int .i64 (putV g q p).f0, .slice Z1 (putV g q p).f1.length yZ1, .slice Z2 (putV g q p).f2.length yZ2, .slice Z3 (putV g q p).f3.length yZ3] 26 (0, 0)) by rw [hW13_, hgZ_]; exact World.alloc_heap_new _ _)
          have hb_ : Below W12.heap.size W12 W13 := by rw [hW13_]; exact below_alloc (Below.refl _ _) _
          clear hW13_ hgZ_
          have n_ := Aside0.mk (blk_below KA.out hb_)
          clear KA
          have KA := n_
          clear n_
          have n_ := Aside0.mk (blk_below KB.out hb_)
          clear KB
          have KB := n_
          clear n_
          have n_ := Aside0.mk (HA.out.below hb_)
          clear HA
          have HA := n_
          clear n_
          have n_ := Aside0.mk (HG.out.below hb_)
          clear HG
          have HG := n_
          clear n_
          have n_ := Aside0.mk (below_step HB.out hb_)
          clear HB
          have HB := n_
          clear n_
          have n_ := Aside0.mk (RX.out.below hb_)
          clear RX
          have RX := n_
          clear n_
          have n_ := Aside0.mk (blk_below KX.out hb_)
          clear KX
          have KX := n_
          clear n_
          have n_ := Aside0.mk (RY.out.below hb_)
          clear RY
          have RY := n_
          clear n_
          have n_ := Aside0.mk (blk_below KY.out hb_)
          clear KY
          have KY := n_
          clear n_
          have n_ := Aside0.mk (Kd.R_below HWY.out hb_)
          clear HWY
          have HWY := n_
          clear n_
          have n_ := Aside0.mk (blk_below KU.out hb_)
          clear KU
          have KU := n_
          clear n_
          have n_ := Aside0.mk (IU.out.below hb_)
          clear IU
          have IU := n_
          clear n_
          have n_ := Aside0.mk (IV.out.below hb_)
          clear IV
          have IV := n_
          clear n_
          have n_ := Aside0.mk (blk_below KV.out hb_)
          clear KV
          have KV := n_
          clear n_
          have n_ := Aside0.mk (blk_below KS.out hb_)
          clear KS
          have KS := n_
          clear n_
          have n_ := Aside0.mk (IS.out.below hb_)
          clear IS
          have IS := n_
          clear n_
          have n_ := Aside0.mk (IZ.out.below hb_)
          clear IZ
          have IZ := n_
          clear n_
          clear hb_
          go_loopg [18] q.length (fun kq i wr => ∃ k : Nat, k + kq = q.length ∧ i = .int .i64 (k : Int) ∧ ∃ m, wr = W13.drewN m)
          case atStart => exact ⟨0, by omega, rfl, 0, rfl⟩
          case round =>
            obtain ⟨k, hk, rfl, m, rfl⟩ := hrel
            cases gk with
            | succ kq =>
              have hlt : (k : Int) < (q.length : Int) := by omega
              have hlt1 : k < q.length := by omega
              have k0 : (0 : Int) ≤ (k : Int) := by omega
              have hlt2 : (k : Int) < (q.length : Int) + 1 := by omega
              obtain ⟨a5, e5, hx⟩ := at_I (C_frontI (R_readsN HWY.out).2) k rfl hlt1
              obtain ⟨a2, e2, hy⟩ := at_I HP.out k rfl hlt1
              obtain ⟨i, hi⟩ : ∃ i, i = q[k] := ⟨_, rfl⟩
              rw [← hi] at hx hy
              have hy' := cell_below HB.out hy
              subst e5 e2
              clear hi hy
              go_wp2_with fail
              go_quiet (fail)
              go_wp2_with fail
              go_roundg kq
              case measure => omega
              case rel => exact ⟨k + 1, by omega, by go_num, _, rfl⟩
            | zero =>
              have hlt : ¬ ((k : Int) < (q.length : Int)) := by omega
              obtain rfl : k = q.length := by omega
              obtain ⟨a5, e5, hx⟩ := at_I (R_readsN HWY.out).2 q.length (by simp) (by simp)
              subst e5
              have HW9 := Aside0.mk (show W13.cell? (a5.add q.length) = some (.int .i64 9) by rw [hx]; simp)
              have hlt2 : (q.length : Int) < (q.length : Int) + 1 := by omega
              clear hx hk
              go_wp2_with fail
              have n_ := Aside0.mk (blk_below KA.out (pw_below_drewN (Below.refl W13.heap.size W13) m))
              clear KA
              have KA := n_
              clear n_
              have n_ := Aside0.mk (blk_below KB.out (pw_below_drewN (Below.refl W13.heap.size W13) m))
              clear KB
              have KB := n_
              clear n_
              have n_ := Aside0.mk (HA.out.below (pw_below_drewN (Below.refl W13.heap.size W13) m))
              clear HA
              have HA := n_
              clear n_
              have n_ := Aside0.mk (HG.out.below (pw_below_drewN (Below.refl W13.heap.size W13) m))
              clear HG
              have HG := n_
              clear n_
              have n_ := Aside0.mk (below_step HB.out (pw_below_drewN (Below.refl W13.heap.size W13) m))
              clear HB
              have HB := n_
              clear n_
              have n_ := Aside0.mk (RX.out.below (pw_below_drewN (Below.refl W13.heap.size W13) m))
              clear RX
              have RX := n_
              clear n_
              have n_ := Aside0.mk (blk_below KX.out (pw_below_drewN (Below.refl W13.heap.size W13) m))
              clear KX
              have KX := n_
              clear n_
              have n_ := Aside0.mk (RY.out.below (pw_below_drewN (Below.refl W13.heap.size W13) m))
              clear RY
              have RY := n_
              clear n_
              have n_ := Aside0.mk (blk_below KY.out (pw_below_drewN (Below.refl W13.heap.size W13) m))
              clear KY
              have KY := n_
              clear n_
              have n_ := Aside0.mk (Kd.R_below HWY.out (pw_below_drewN (Below.refl W13.heap.size W13) m))
              clear HWY
              have HWY := n_
              clear n_
              have n_ := Aside0.mk (blk_below KU.out (pw_below_drewN (Below.refl W13.heap.size W13) m))
              clear KU
              have KU := n_
              clear n_
              have n_ := Aside0.mk (IU.out.below (pw_below_drewN (Below.refl W13.heap.size W13) m))
              clear IU
              have IU := n_
              clear n_
              have n_ := Aside0.mk (IV.out.below (pw_below_drewN (Below.refl W13.heap.size W13) m))
              clear IV
              have IV := n_
              clear n_
              have n_ := Aside0.mk (blk_below KV.out (pw_below_drewN (Below.refl W13.heap.size W13) m))
              clear KV
              have KV := n_
              clear n_
              have n_ := Aside0.mk (blk_below KS.out (pw_below_drewN (Below.refl W13.heap.size W13) m))
              clear KS
              have KS := n_
              clear n_
              have n_ := Aside0.mk (IS.out.below (pw_below_drewN (Below.refl W13.heap.size W13) m))
              clear IS
              have IS := n_
              clear n_
              have n_ := Aside0.mk (IZ.out.below (pw_below_drewN (Below.refl W13.heap.size W13) m))
              clear IZ
              have IZ := n_
              clear n_
              have n_ := Aside0.mk (blk_below KZ.out (pw_below_drewN (Below.refl W13.heap.size W13) m))
              clear KZ
              have KZ := n_
              clear n_
              have n_ := Aside0.mk (cell_below (pw_below_drewN (Below.refl W13.heap.size W13) m) HW9.out)
              clear HW9
              have HW9 := n_
              clear n_
              generalize W13.drewN m = Wd at KA KB HA HG HB RX KX RY KY HWY KU IU IV KV KS IS IZ KZ HW9 ⊢
              refine (alive_calls Wd).mono ?_
              rintro e W14 ⟨rfl, hb_⟩
              have n_ := Aside0.mk (blk_below KA.out hb_)
              clear KA
              have KA := n_
              clear n_
              have n_ := Aside0.mk (blk_below KB.out hb_)
              clear KB
              have KB := n_
              clear n_
              have n_ := Aside0.mk (HA.out.below hb_)
              clear HA
              have HA := n_
              clear n_
              have n_ := Aside0.mk (HG.out.below hb_)
              clear HG
              have HG := n_
              clear n_
              have n_ := Aside0.mk (below_step HB.out hb_)
              clear HB
              have HB := n_
              clear n_
              have n_ := Aside0.mk (RX.out.below hb_)
              clear RX
              have RX := n_
              clear n_
              have n_ := Aside0.mk (blk_below KX.out hb_)
              clear KX
              have KX := n_
              clear n_
              have n_ := Aside0.mk (RY.out.below hb_)
              clear RY
              have RY := n_
              clear n_
              have n_ := Aside0.mk (blk_below KY.out hb_)
              clear KY
              have KY := n_
              clear n_
              have n_ := Aside0.mk (Kd.R_below HWY.out hb_)
              clear HWY
              have HWY := n_
              clear n_
              have n_ := Aside0.mk (blk_below KU.out hb_)
              clear KU
              have KU := n_
              clear n_
              have n_ := Aside0.mk (IU.out.below hb_)
              clear IU
              have IU := n_
              clear n_
              have n_ := Aside0.mk (IV.out.below hb_)
              clear IV
              have IV := n_
              clear n_
              have n_ := Aside0.mk (blk_below KV.out hb_)
              clear KV
              have KV := n_
              clear n_
              have n_ := Aside0.mk (blk_below KS.out hb_)
              clear KS
              have KS := n_
              clear n_
              have n_ := Aside0.mk (IS.out.below hb_)
              clear IS
              have IS := n_
              clear n_
              have n_ := Aside0.mk (IZ.out.below hb_)
              clear IZ
              have IZ := n_
              clear n_
              have n_ := Aside0.mk (blk_below KZ.out hb_)
              clear KZ
              have KZ := n_
              clear n_
              have n_ := Aside0.mk (cell_below hb_ HW9.out)
              clear HW9
              have HW9 := n_
              clear n_
              clear hb_
              have zA0_ : W14.cell? ⟨ga, 0, none⟩ = some (.int .i64 g.f0) := (blk_cell KA.out 0).trans rfl
              have zA1_ : W14.cell? ⟨ga, 1, none⟩ = some (.slice A1 g.f1.length c1) := (blk_cell KA.out 1).trans rfl
              have zA2_ : W14.cell? ⟨ga, 2, none⟩ = some (.slice A2 g.f2.length c2) := (blk_cell KA.out 2).trans rfl
              have zA3_ : W14.cell? ⟨ga, 3, none⟩ = some (.slice A3 g.f3.length c3) := (blk_cell KA.out 3).trans rfl
              have zB0_ : W14.cell? ⟨gb, 0, none⟩ = some (.int .i64 p.f0) := (blk_cell KB.out 0).trans rfl
              have zB1_ : W14.cell? ⟨gb, 1, none⟩ = some (.slice D1 p.f1.length d1) := (blk_cell KB.out 1).trans rfl
              have zB2_ : W14.cell? ⟨gb, 2, none⟩ = some (.slice D2 p.f2.length d2) := (blk_cell KB.out 2).trans rfl
              have zB3_ : W14.cell? ⟨gb, 3, none⟩ = some (.slice D3 p.f3.length d3) := (blk_cell KB.out 3).trans rfl
              have zX0_ : W14.cell? ⟨gx, 0, none⟩ = some (.int .i64 g.f0) := (blk_cell KX.out 0).trans rfl
              have zX1_ : W14.cell? ⟨gx, 1, none⟩ = some (.slice E1 g.f1.length e1) := (blk_cell KX.out 1).trans rfl
              have zX2_ : W14.cell? ⟨gx, 2, none⟩ = some (.slice E2 g.f2.length e2) := (blk_cell KX.out 2).trans rfl
              have zX3_ : W14.cell? ⟨gx, 3, none⟩ = some (.slice E3 g.f3.length e3) := (blk_cell KX.out 3).trans rfl
              have zY0_ : W14.cell? ⟨gy, 0, none⟩ = some (.int .i64 p.f0) := (blk_cell KY.out 0).trans rfl
              have zY1_ : W14.cell? ⟨gy, 1, none⟩ = some (.slice F1 p.f1.length f1) := (blk_cell KY.out 1).trans rfl
              have zY2_ : W14.cell? ⟨gy, 2, none⟩ = some (.slice F2 p.f2.length f2) := (blk_cell KY.out 2).trans rfl
              have zY3_ : W14.cell? ⟨gy, 3, none⟩ = some (.slice F3 p.f3.length f3) := (blk_cell KY.out 3).trans rfl
              have zU0_ : W14.cell? ⟨gU, 0, none⟩ = some (.int .i64 (findV g q).f0) := (blk_cell KU.out 0).trans rfl
              have zU1_ : W14.cell? ⟨gU, 1, none⟩ = some (.slice U1 (findV g q).f1.length yU1) := (blk_cell KU.out 1).trans rfl
              have zU2_ : W14.cell? ⟨gU, 2, none⟩ = some (.slice U2 (findV g q).f2.length yU2) := (blk_cell KU.out 2).trans rfl
              have zU3_ : W14.cell? ⟨gU, 3, none⟩ = some (.slice U3 (findV g q).f3.length yU3) := (blk_cell KU.out 3).trans rfl
              have zV0_ : W14.cell? ⟨gV, 0, none⟩ = some (.int .i64 (findV g q).f0) := (blk_cell KV.out 0).trans rfl
              have zV1_ : W14.cell? ⟨gV, 1, none⟩ = some (.slice V1 (findV g q).f1.length yV1) := (blk_cell KV.out 1).trans rfl
              have zV2_ : W14.cell? ⟨gV, 2, none⟩ = some (.slice V2 (findV g q).f2.length yV2) := (blk_cell KV.out 2).trans rfl
              have zV3_ : W14.cell? ⟨gV, 3, none⟩ = some (.slice V3 (findV g q).f3.length yV3) := (blk_cell KV.out 3).trans rfl
              have zS0_ : W14.cell? ⟨gS, 0, none⟩ = some (.int .i64 (putV g q p).f0) := (blk_cell KS.out 0).trans rfl
              have zS1_ : W14.cell? ⟨gS, 1, none⟩ = some (.slice S1 (putV g q p).f1.length yS1) := (blk_cell KS.out 1).trans rfl
              have zS2_ : W14.cell? ⟨gS, 2, none⟩ = some (.slice S2 (putV g q p).f2.length yS2) := (blk_cell KS.out 2).trans rfl
              have zS3_ : W14.cell? ⟨gS, 3, none⟩ = some (.slice S3 (putV g q p).f3.length yS3) := (blk_cell KS.out 3).trans rfl
              have zZ0_ : W14.cell? ⟨gZ, 0, none⟩ = some (.int .i64 (putV g q p).f0) := (blk_cell KZ.out 0).trans rfl
              have zZ1_ : W14.cell? ⟨gZ, 1, none⟩ = some (.slice Z1 (putV g q p).f1.length yZ1) := (blk_cell KZ.out 1).trans rfl
              have zZ2_ : W14.cell? ⟨gZ, 2, none⟩ = some (.slice Z2 (putV g q p).f2.length yZ2) := (blk_cell KZ.out 2).trans rfl
              have zZ3_ : W14.cell? ⟨gZ, 3, none⟩ = some (.slice Z3 (putV g q p).f3.length yZ3) := (blk_cell KZ.out 3).trans rfl
              have z9_ : W14.cell? (a5.add q.length) = some (.int .i64 9) := HW9.out
              go_wp2_with fail
              clear zA0_ zA1_ zA2_ zA3_ zB0_ zB1_ zB2_ zB3_ zX0_ zX1_ zX2_ zX3_ zY0_ zY1_ zY2_ zY3_ zU0_ zU1_ zU2_ zU3_ zV0_ zV1_ zV2_ zV3_ zS0_ zS1_ zS2_ zS3_ zZ0_ zZ1_ zZ2_ zZ3_ z9_
              refine (requal_calls (findV g q).bulk _ _ (findV g q) (findV g q) W14 IU.out IV.out (Nat.le_refl _) hfb hfb).mono ?_
              rintro e W15 ⟨rfl, hb_⟩
              rw [eqG_true rfl]
              have n_ := Aside0.mk (blk_below KA.out hb_)
              clear KA
              have KA := n_
              clear n_
              have n_ := Aside0.mk (blk_below KB.out hb_)
              clear KB
              have KB := n_
              clear n_
              have n_ := Aside0.mk (HA.out.below hb_)
              clear HA
              have HA := n_
              clear n_
              have n_ := Aside0.mk (HG.out.below hb_)
              clear HG
              have HG := n_
              clear n_
              have n_ := Aside0.mk (below_step HB.out hb_)
              clear HB
              have HB := n_
              clear n_
              have n_ := Aside0.mk (RX.out.below hb_)
              clear RX
              have RX := n_
              clear n_
              have n_ := Aside0.mk (blk_below KX.out hb_)
              clear KX
              have KX := n_
              clear n_
              have n_ := Aside0.mk (RY.out.below hb_)
              clear RY
              have RY := n_
              clear n_
              have n_ := Aside0.mk (blk_below KY.out hb_)
              clear KY
              have KY := n_
              clear n_
              have n_ := Aside0.mk (Kd.R_below HWY.out hb_)
              clear HWY
              have HWY := n_
              clear n_
              have n_ := Aside0.mk (blk_below KU.out hb_)
              clear KU
              have KU := n_
              clear n_
              have n_ := Aside0.mk (IU.out.below hb_)
              clear IU
              have IU := n_
              clear n_
              have n_ := Aside0.mk (IV.out.below hb_)
              clear IV
              have IV := n_
              clear n_
              have n_ := Aside0.mk (blk_below KV.out hb_)
              clear KV
              have KV := n_
              clear n_
              have n_ := Aside0.mk (blk_below KS.out hb_)
              clear KS
              have KS := n_
              clear n_
              have n_ := Aside0.mk (IS.out.below hb_)
              clear IS
              have IS := n_
              clear n_
              have n_ := Aside0.mk (IZ.out.below hb_)
              clear IZ
              have IZ := n_
              clear n_
              have n_ := Aside0.mk (blk_below KZ.out hb_)
              clear KZ
              have KZ := n_
              clear n_
              have n_ := Aside0.mk (cell_below hb_ HW9.out)
              clear HW9
              have HW9 := n_
              clear n_
              clear hb_
              have zA0_ : W15.cell? ⟨ga, 0, none⟩ = some (.int .i64 g.f0) := (blk_cell KA.out 0).trans rfl
              have zA1_ : W15.cell? ⟨ga, 1, none⟩ = some (.slice A1 g.f1.length c1) := (blk_cell KA.out 1).trans rfl
              have zA2_ : W15.cell? ⟨ga, 2, none⟩ = some (.slice A2 g.f2.length c2) := (blk_cell KA.out 2).trans rfl
              have zA3_ : W15.cell? ⟨ga, 3, none⟩ = some (.slice A3 g.f3.length c3) := (blk_cell KA.out 3).trans rfl
              have zB0_ : W15.cell? ⟨gb, 0, none⟩ = some (.int .i64 p.f0) := (blk_cell KB.out 0).trans rfl
              have zB1_ : W15.cell? ⟨gb, 1, none⟩ = some (.slice D1 p.f1.length d1) := (blk_cell KB.out 1).trans rfl
              have zB2_ : W15.cell? ⟨gb, 2, none⟩ = some (.slice D2 p.f2.length d2) := (blk_cell KB.out 2).trans rfl
              have zB3_ : W15.cell? ⟨gb, 3, none⟩ = some (.slice D3 p.f3.length d3) := (blk_cell KB.out 3).trans rfl
              have zX0_ : W15.cell? ⟨gx, 0, none⟩ = some (.int .i64 g.f0) := (blk_cell KX.out 0).trans rfl
              have zX1_ : W15.cell? ⟨gx, 1, none⟩ = some (.slice E1 g.f1.length e1) := (blk_cell KX.out 1).trans rfl
              have zX2_ : W15.cell? ⟨gx, 2, none⟩ = some (.slice E2 g.f2.length e2) := (blk_cell KX.out 2).trans rfl
              have zX3_ : W15.cell? ⟨gx, 3, none⟩ = some (.slice E3 g.f3.length e3) := (blk_cell KX.out 3).trans rfl
              have zY0_ : W15.cell? ⟨gy, 0, none⟩ = some (.int .i64 p.f0) := (blk_cell KY.out 0).trans rfl
              have zY1_ : W15.cell? ⟨gy, 1, none⟩ = some (.slice F1 p.f1.length f1) := (blk_cell KY.out 1).trans rfl
              have zY2_ : W15.cell? ⟨gy, 2, none⟩ = some (.slice F2 p.f2.length f2) := (blk_cell KY.out 2).trans rfl
              have zY3_ : W15.cell? ⟨gy, 3, none⟩ = some (.slice F3 p.f3.length f3) := (blk_cell KY.out 3).trans rfl
              have zU0_ : W15.cell? ⟨gU, 0, none⟩ = some (.int .i64 (findV g q).f0) := (blk_cell KU.out 0).trans rfl
              have zU1_ : W15.cell? ⟨gU, 1, none⟩ = some (.slice U1 (findV g q).f1.length yU1) := (blk_cell KU.out 1).trans rfl
              have zU2_ : W15.cell? ⟨gU, 2, none⟩ = some (.slice U2 (findV g q).f2.length yU2) := (blk_cell KU.out 2).trans rfl
              have zU3_ : W15.cell? ⟨gU, 3, none⟩ = some (.slice U3 (findV g q).f3.length yU3) := (blk_cell KU.out 3).trans rfl
              have zV0_ : W15.cell? ⟨gV, 0, none⟩ = some (.int .i64 (findV g q).f0) := (blk_cell KV.out 0).trans rfl
              have zV1_ : W15.cell? ⟨gV, 1, none⟩ = some (.slice V1 (findV g q).f1.length yV1) := (blk_cell KV.out 1).trans rfl
              have zV2_ : W15.cell? ⟨gV, 2, none⟩ = some (.slice V2 (findV g q).f2.length yV2) := (blk_cell KV.out 2).trans rfl
              have zV3_ : W15.cell? ⟨gV, 3, none⟩ = some (.slice V3 (findV g q).f3.length yV3) := (blk_cell KV.out 3).trans rfl
              have zS0_ : W15.cell? ⟨gS, 0, none⟩ = some (.int .i64 (putV g q p).f0) := (blk_cell KS.out 0).trans rfl
              have zS1_ : W15.cell? ⟨gS, 1, none⟩ = some (.slice S1 (putV g q p).f1.length yS1) := (blk_cell KS.out 1).trans rfl
              have zS2_ : W15.cell? ⟨gS, 2, none⟩ = some (.slice S2 (putV g q p).f2.length yS2) := (blk_cell KS.out 2).trans rfl
              have zS3_ : W15.cell? ⟨gS, 3, none⟩ = some (.slice S3 (putV g q p).f3.length yS3) := (blk_cell KS.out 3).trans rfl
              have zZ0_ : W15.cell? ⟨gZ, 0, none⟩ = some (.int .i64 (putV g q p).f0) := (blk_cell KZ.out 0).trans rfl
              have zZ1_ : W15.cell? ⟨gZ, 1, none⟩ = some (.slice Z1 (putV g q p).f1.length yZ1) := (blk_cell KZ.out 1).trans rfl
              have zZ2_ : W15.cell? ⟨gZ, 2, none⟩ = some (.slice Z2 (putV g q p).f2.length yZ2) := (blk_cell KZ.out 2).trans rfl
              have zZ3_ : W15.cell? ⟨gZ, 3, none⟩ = some (.slice Z3 (putV g q p).f3.length yZ3) := (blk_cell KZ.out 3).trans rfl
              have z9_ : W15.cell? (a5.add q.length) = some (.int .i64 9) := HW9.out
              go_wp2_with fail
              clear zA0_ zA1_ zA2_ zA3_ zB0_ zB1_ zB2_ zB3_ zX0_ zX1_ zX2_ zX3_ zY0_ zY1_ zY2_ zY3_ zU0_ zU1_ zU2_ zU3_ zV0_ zV1_ zV2_ zV3_ zS0_ zS1_ zS2_ zS3_ zZ0_ zZ1_ zZ2_ zZ3_ z9_
              refine (requal_calls (putV g q p).bulk _ _ (putV g q p) (putV g q p) W15 IS.out IZ.out (Nat.le_refl _) hpb hpb).mono ?_
              rintro e W16 ⟨rfl, hb_⟩
              rw [eqG_true rfl]
              have n_ := Aside0.mk (blk_below KA.out hb_)
              clear KA
              have KA := n_
              clear n_
              have n_ := Aside0.mk (blk_below KB.out hb_)
              clear KB
              have KB := n_
              clear n_
              have n_ := Aside0.mk (HA.out.below hb_)
              clear HA
              have HA := n_
              clear n_
              have n_ := Aside0.mk (HG.out.below hb_)
              clear HG
              have HG := n_
              clear n_
              have n_ := Aside0.mk (below_step HB.out hb_)
              clear HB
              have HB := n_
              clear n_
              have n_ := Aside0.mk (RX.out.below hb_)
              clear RX
              have RX := n_
              clear n_
              have n_ := Aside0.mk (blk_below KX.out hb_)
              clear KX
              have KX := n_
              clear n_
              have n_ := Aside0.mk (RY.out.below hb_)
              clear RY
              have RY := n_
              clear n_
              have n_ := Aside0.mk (blk_below KY.out hb_)
              clear KY
              have KY := n_
              clear n_
              have n_ := Aside0.mk (Kd.R_below HWY.out hb_)
              clear HWY
              have HWY := n_
              clear n_
              have n_ := Aside0.mk (blk_below KU.out hb_)
              clear KU
              have KU := n_
              clear n_
              have n_ := Aside0.mk (IU.out.below hb_)
              clear IU
              have IU := n_
              clear n_
              have n_ := Aside0.mk (IV.out.below hb_)
              clear IV
              have IV := n_
              clear n_
              have n_ := Aside0.mk (blk_below KV.out hb_)
              clear KV
              have KV := n_
              clear n_
              have n_ := Aside0.mk (blk_below KS.out hb_)
              clear KS
              have KS := n_
              clear n_
              have n_ := Aside0.mk (IS.out.below hb_)
              clear IS
              have IS := n_
              clear n_
              have n_ := Aside0.mk (IZ.out.below hb_)
              clear IZ
              have IZ := n_
              clear n_
              have n_ := Aside0.mk (blk_below KZ.out hb_)
              clear KZ
              have KZ := n_
              clear n_
              have n_ := Aside0.mk (cell_below hb_ HW9.out)
              clear HW9
              have HW9 := n_
              clear n_
              clear hb_
              have zA0_ : W16.cell? ⟨ga, 0, none⟩ = some (.int .i64 g.f0) := (blk_cell KA.out 0).trans rfl
              have zA1_ : W16.cell? ⟨ga, 1, none⟩ = some (.slice A1 g.f1.length c1) := (blk_cell KA.out 1).trans rfl
              have zA2_ : W16.cell? ⟨ga, 2, none⟩ = some (.slice A2 g.f2.length c2) := (blk_cell KA.out 2).trans rfl
              have zA3_ : W16.cell? ⟨ga, 3, none⟩ = some (.slice A3 g.f3.length c3) := (blk_cell KA.out 3).trans rfl
              have zB0_ : W16.cell? ⟨gb, 0, none⟩ = some (.int .i64 p.f0) := (blk_cell KB.out 0).trans rfl
              have zB1_ : W16.cell? ⟨gb, 1, none⟩ = some (.slice D1 p.f1.length d1) := (blk_cell KB.out 1).trans rfl
              have zB2_ : W16.cell? ⟨gb, 2, none⟩ = some (.slice D2 p.f2.length d2) := (blk_cell KB.out 2).trans rfl
              have zB3_ : W16.cell? ⟨gb, 3, none⟩ = some (.slice D3 p.f3.length d3) := (blk_cell KB.out 3).trans rfl
              have zX0_ : W16.cell? ⟨gx, 0, none⟩ = some (.int .i64 g.f0) := (blk_cell KX.out 0).trans rfl
              have zX1_ : W16.cell? ⟨gx, 1, none⟩ = some (.slice E1 g.f1.length e1) := (blk_cell KX.out 1).trans rfl
              have zX2_ : W16.cell? ⟨gx, 2, none⟩ = some (.slice E2 g.f2.length e2) := (blk_cell KX.out 2).trans rfl
              have zX3_ : W16.cell? ⟨gx, 3, none⟩ = some (.slice E3 g.f3.length e3) := (blk_cell KX.out 3).trans rfl
              have zY0_ : W16.cell? ⟨gy, 0, none⟩ = some (.int .i64 p.f0) := (blk_cell KY.out 0).trans rfl
              have zY1_ : W16.cell? ⟨gy, 1, none⟩ = some (.slice F1 p.f1.length f1) := (blk_cell KY.out 1).trans rfl
              have zY2_ : W16.cell? ⟨gy, 2, none⟩ = some (.slice F2 p.f2.length f2) := (blk_cell KY.out 2).trans rfl
              have zY3_ : W16.cell? ⟨gy, 3, none⟩ = some (.slice F3 p.f3.length f3) := (blk_cell KY.out 3).trans rfl
              have zU0_ : W16.cell? ⟨gU, 0, none⟩ = some (.int .i64 (findV g q).f0) := (blk_cell KU.out 0).trans rfl
              have zU1_ : W16.cell? ⟨gU, 1, none⟩ = some (.slice U1 (findV g q).f1.length yU1) := (blk_cell KU.out 1).trans rfl
              have zU2_ : W16.cell? ⟨gU, 2, none⟩ = some (.slice U2 (findV g q).f2.length yU2) := (blk_cell KU.out 2).trans rfl
              have zU3_ : W16.cell? ⟨gU, 3, none⟩ = some (.slice U3 (findV g q).f3.length yU3) := (blk_cell KU.out 3).trans rfl
              have zV0_ : W16.cell? ⟨gV, 0, none⟩ = some (.int .i64 (findV g q).f0) := (blk_cell KV.out 0).trans rfl
              have zV1_ : W16.cell? ⟨gV, 1, none⟩ = some (.slice V1 (findV g q).f1.length yV1) := (blk_cell KV.out 1).trans rfl
              have zV2_ : W16.cell? ⟨gV, 2, none⟩ = some (.slice V2 (findV g q).f2.length yV2) := (blk_cell KV.out 2).trans rfl
              have zV3_ : W16.cell? ⟨gV, 3, none⟩ = some (.slice V3 (findV g q).f3.length yV3) := (blk_cell KV.out 3).trans rfl
              have zS0_ : W16.cell? ⟨gS, 0, none⟩ = some (.int .i64 (putV g q p).f0) := (blk_cell KS.out 0).trans rfl
              have zS1_ : W16.cell? ⟨gS, 1, none⟩ = some (.slice S1 (putV g q p).f1.length yS1) := (blk_cell KS.out 1).trans rfl
              have zS2_ : W16.cell? ⟨gS, 2, none⟩ = some (.slice S2 (putV g q p).f2.length yS2) := (blk_cell KS.out 2).trans rfl
              have zS3_ : W16.cell? ⟨gS, 3, none⟩ = some (.slice S3 (putV g q p).f3.length yS3) := (blk_cell KS.out 3).trans rfl
              have zZ0_ : W16.cell? ⟨gZ, 0, none⟩ = some (.int .i64 (putV g q p).f0) := (blk_cell KZ.out 0).trans rfl
              have zZ1_ : W16.cell? ⟨gZ, 1, none⟩ = some (.slice Z1 (putV g q p).f1.length yZ1) := (blk_cell KZ.out 1).trans rfl
              have zZ2_ : W16.cell? ⟨gZ, 2, none⟩ = some (.slice Z2 (putV g q p).f2.length yZ2) := (blk_cell KZ.out 2).trans rfl
              have zZ3_ : W16.cell? ⟨gZ, 3, none⟩ = some (.slice Z3 (putV g q p).f3.length yZ3) := (blk_cell KZ.out 3).trans rfl
              have z9_ : W16.cell? (a5.add q.length) = some (.int .i64 9) := HW9.out
              go_wp2_with fail
              clear zA0_ zA1_ zA2_ zA3_ zB0_ zB1_ zB2_ zB3_ zX0_ zX1_ zX2_ zX3_ zY0_ zY1_ zY2_ zY3_ zU0_ zU1_ zU2_ zU3_ zV0_ zV1_ zV2_ zV3_ zS0_ zS1_ zS2_ zS3_ zZ0_ zZ1_ zZ2_ zZ3_ z9_
              refine (kept_calls g.bulk _ _ g W16 RX.out HA.out (by omega)).mono ?_
              rintro e W17 ⟨rfl, hb_⟩
              have n_ := Aside0.mk (blk_below KA.out hb_)
              clear KA
              have KA := n_
              clear n_
              have n_ := Aside0.mk (blk_below KB.out hb_)
              clear KB
              have KB := n_
              clear n_
              have n_ := Aside0.mk (HA.out.below hb_)
              clear HA
              have HA := n_
              clear n_
              have n_ := Aside0.mk (HG.out.below hb_)
              clear HG
              have HG := n_
              clear n_
              have n_ := Aside0.mk (below_step HB.out hb_)
              clear HB
              have HB := n_
              clear n_
              have n_ := Aside0.mk (RX.out.below hb_)
              clear RX
              have RX := n_
              clear n_
              have n_ := Aside0.mk (blk_below KX.out hb_)
              clear KX
              have KX := n_
              clear n_
              have n_ := Aside0.mk (RY.out.below hb_)
              clear RY
              have RY := n_
              clear n_
              have n_ := Aside0.mk (blk_below KY.out hb_)
              clear KY
              have KY := n_
              clear n_
              have n_ := Aside0.mk (Kd.R_below HWY.out hb_)
              clear HWY
              have HWY := n_
              clear n_
              have n_ := Aside0.mk (blk_below KU.out hb_)
              clear KU
              have KU := n_
              clear n_
              have n_ := Aside0.mk (IU.out.below hb_)
              clear IU
              have IU := n_
              clear n_
              have n_ := Aside0.mk (IV.out.below hb_)
              clear IV
              have IV := n_
              clear n_
              have n_ := Aside0.mk (blk_below KV.out hb_)
              clear KV
              have KV := n_
              clear n_
              have n_ := Aside0.mk (blk_below KS.out hb_)
              clear KS
              have KS := n_
              clear n_
              have n_ := Aside0.mk (IS.out.below hb_)
              clear IS
              have IS := n_
              clear n_
              have n_ := Aside0.mk (IZ.out.below hb_)
              clear IZ
              have IZ := n_
              clear n_
              have n_ := Aside0.mk (blk_below KZ.out hb_)
              clear KZ
              have KZ := n_
              clear n_
              have n_ := Aside0.mk (cell_below hb_ HW9.out)
              clear HW9
              have HW9 := n_
              clear n_
              clear hb_
              have zA0_ : W17.cell? ⟨ga, 0, none⟩ = some (.int .i64 g.f0) := (blk_cell KA.out 0).trans rfl
              have zA1_ : W17.cell? ⟨ga, 1, none⟩ = some (.slice A1 g.f1.length c1) := (blk_cell KA.out 1).trans rfl
              have zA2_ : W17.cell? ⟨ga, 2, none⟩ = some (.slice A2 g.f2.length c2) := (blk_cell KA.out 2).trans rfl
              have zA3_ : W17.cell? ⟨ga, 3, none⟩ = some (.slice A3 g.f3.length c3) := (blk_cell KA.out 3).trans rfl
              have zB0_ : W17.cell? ⟨gb, 0, none⟩ = some (.int .i64 p.f0) := (blk_cell KB.out 0).trans rfl
              have zB1_ : W17.cell? ⟨gb, 1, none⟩ = some (.slice D1 p.f1.length d1) := (blk_cell KB.out 1).trans rfl
              have zB2_ : W17.cell? ⟨gb, 2, none⟩ = some (.slice D2 p.f2.length d2) := (blk_cell KB.out 2).trans rfl
              have zB3_ : W17.cell? ⟨gb, 3, none⟩ = some (.slice D3 p.f3.length d3) := (blk_cell KB.out 3).trans rfl
              have zX0_ : W17.cell? ⟨gx, 0, none⟩ = some (.int .i64 g.f0) := (blk_cell KX.out 0).trans rfl
              have zX1_ : W17.cell? ⟨gx, 1, none⟩ = some (.slice E1 g.f1.length e1) := (blk_cell KX.out 1).trans rfl
              have zX2_ : W17.cell? ⟨gx, 2, none⟩ = some (.slice E2 g.f2.length e2) := (blk_cell KX.out 2).trans rfl
              have zX3_ : W17.cell? ⟨gx, 3, none⟩ = some (.slice E3 g.f3.length e3) := (blk_cell KX.out 3).trans rfl
              have zY0_ : W17.cell? ⟨gy, 0, none⟩ = some (.int .i64 p.f0) := (blk_cell KY.out 0).trans rfl
              have zY1_ : W17.cell? ⟨gy, 1, none⟩ = some (.slice F1 p.f1.length f1) := (blk_cell KY.out 1).trans rfl
              have zY2_ : W17.cell? ⟨gy, 2, none⟩ = some (.slice F2 p.f2.length f2) := (blk_cell KY.out 2).trans rfl
              have zY3_ : W17.cell? ⟨gy, 3, none⟩ = some (.slice F3 p.f3.length f3) := (blk_cell KY.out 3).trans rfl
              have zU0_ : W17.cell? ⟨gU, 0, none⟩ = some (.int .i64 (findV g q).f0) := (blk_cell KU.out 0).trans rfl
              have zU1_ : W17.cell? ⟨gU, 1, none⟩ = some (.slice U1 (findV g q).f1.length yU1) := (blk_cell KU.out 1).trans rfl
              have zU2_ : W17.cell? ⟨gU, 2, none⟩ = some (.slice U2 (findV g q).f2.length yU2) := (blk_cell KU.out 2).trans rfl
              have zU3_ : W17.cell? ⟨gU, 3, none⟩ = some (.slice U3 (findV g q).f3.length yU3) := (blk_cell KU.out 3).trans rfl
              have zV0_ : W17.cell? ⟨gV, 0, none⟩ = some (.int .i64 (findV g q).f0) := (blk_cell KV.out 0).trans rfl
              have zV1_ : W17.cell? ⟨gV, 1, none⟩ = some (.slice V1 (findV g q).f1.length yV1) := (blk_cell KV.out 1).trans rfl
              have zV2_ : W17.cell? ⟨gV, 2, none⟩ = some (.slice V2 (findV g q).f2.length yV2) := (blk_cell KV.out 2).trans rfl
              have zV3_ : W17.cell? ⟨gV, 3, none⟩ = some (.slice V3 (findV g q).f3.length yV3) := (blk_cell KV.out 3).trans rfl
              have zS0_ : W17.cell? ⟨gS, 0, none⟩ = some (.int .i64 (putV g q p).f0) := (blk_cell KS.out 0).trans rfl
              have zS1_ : W17.cell? ⟨gS, 1, none⟩ = some (.slice S1 (putV g q p).f1.length yS1) := (blk_cell KS.out 1).trans rfl
              have zS2_ : W17.cell? ⟨gS, 2, none⟩ = some (.slice S2 (putV g q p).f2.length yS2) := (blk_cell KS.out 2).trans rfl
              have zS3_ : W17.cell? ⟨gS, 3, none⟩ = some (.slice S3 (putV g q p).f3.length yS3) := (blk_cell KS.out 3).trans rfl
              have zZ0_ : W17.cell? ⟨gZ, 0, none⟩ = some (.int .i64 (putV g q p).f0) := (blk_cell KZ.out 0).trans rfl
              have zZ1_ : W17.cell? ⟨gZ, 1, none⟩ = some (.slice Z1 (putV g q p).f1.length yZ1) := (blk_cell KZ.out 1).trans rfl
              have zZ2_ : W17.cell? ⟨gZ, 2, none⟩ = some (.slice Z2 (putV g q p).f2.length yZ2) := (blk_cell KZ.out 2).trans rfl
              have zZ3_ : W17.cell? ⟨gZ, 3, none⟩ = some (.slice Z3 (putV g q p).f3.length yZ3) := (blk_cell KZ.out 3).trans rfl
              have z9_ : W17.cell? (a5.add q.length) = some (.int .i64 9) := HW9.out
              go_wp2_with fail
              clear zA0_ zA1_ zA2_ zA3_ zB0_ zB1_ zB2_ zB3_ zX0_ zX1_ zX2_ zX3_ zY0_ zY1_ zY2_ zY3_ zU0_ zU1_ zU2_ zU3_ zV0_ zV1_ zV2_ zV3_ zS0_ zS1_ zS2_ zS3_ zZ0_ zZ1_ zZ2_ zZ3_ z9_
              refine (kept_calls p.bulk _ _ p W17 RY.out HG.out (by omega)).mono ?_
              rintro e W18 ⟨rfl, hb_⟩
              have n_ := Aside0.mk (blk_below KA.out hb_)
              clear KA
              have KA := n_
              clear n_
              have n_ := Aside0.mk (blk_below KB.out hb_)
              clear KB
              have KB := n_
              clear n_
              have n_ := Aside0.mk (HA.out.below hb_)
              clear HA
              have HA := n_
              clear n_
              have n_ := Aside0.mk (HG.out.below hb_)
              clear HG
              have HG := n_
              clear n_
              have n_ := Aside0.mk (below_step HB.out hb_)
              clear HB
              have HB := n_
              clear n_
              have n_ := Aside0.mk (RX.out.below hb_)
              clear RX
              have RX := n_
              clear n_
              have n_ := Aside0.mk (blk_below KX.out hb_)
              clear KX
              have KX := n_
              clear n_
              have n_ := Aside0.mk (RY.out.below hb_)
              clear RY
              have RY := n_
              clear n_
              have n_ := Aside0.mk (blk_below KY.out hb_)
              clear KY
              have KY := n_
              clear n_
              have n_ := Aside0.mk (Kd.R_below HWY.out hb_)
              clear HWY
              have HWY := n_
              clear n_
              have n_ := Aside0.mk (blk_below KU.out hb_)
              clear KU
              have KU := n_
              clear n_
              have n_ := Aside0.mk (IU.out.below hb_)
              clear IU
              have IU := n_
              clear n_
              have n_ := Aside0.mk (IV.out.below hb_)
              clear IV
              have IV := n_
              clear n_
              have n_ := Aside0.mk (blk_below KV.out hb_)
              clear KV
              have KV := n_
              clear n_
              have n_ := Aside0.mk (blk_below KS.out hb_)
              clear KS
              have KS := n_
              clear n_
              have n_ := Aside0.mk (IS.out.below hb_)
              clear IS
              have IS := n_
              clear n_
              have n_ := Aside0.mk (IZ.out.below hb_)
              clear IZ
              have IZ := n_
              clear n_
              have n_ := Aside0.mk (blk_below KZ.out hb_)
              clear KZ
              have KZ := n_
              clear n_
              have n_ := Aside0.mk (cell_below hb_ HW9.out)
              clear HW9
              have HW9 := n_
              clear n_
              clear hb_
              have zA0_ : W18.cell? ⟨ga, 0, none⟩ = some (.int .i64 g.f0) := (blk_cell KA.out 0).trans rfl
              have zA1_ : W18.cell? ⟨ga, 1, none⟩ = some (.slice A1 g.f1.length c1) := (blk_cell KA.out 1).trans rfl
              have zA2_ : W18.cell? ⟨ga, 2, none⟩ = some (.slice A2 g.f2.length c2) := (blk_cell KA.out 2).trans rfl
              have zA3_ : W18.cell? ⟨ga, 3, none⟩ = some (.slice A3 g.f3.length c3) := (blk_cell KA.out 3).trans rfl
              have zB0_ : W18.cell? ⟨gb, 0, none⟩ = some (.int .i64 p.f0) := (blk_cell KB.out 0).trans rfl
              have zB1_ : W18.cell? ⟨gb, 1, none⟩ = some (.slice D1 p.f1.length d1) := (blk_cell KB.out 1).trans rfl
              have zB2_ : W18.cell? ⟨gb, 2, none⟩ = some (.slice D2 p.f2.length d2) := (blk_cell KB.out 2).trans rfl
              have zB3_ : W18.cell? ⟨gb, 3, none⟩ = some (.slice D3 p.f3.length d3) := (blk_cell KB.out 3).trans rfl
              have zX0_ : W18.cell? ⟨gx, 0, none⟩ = some (.int .i64 g.f0) := (blk_cell KX.out 0).trans rfl
              have zX1_ : W18.cell? ⟨gx, 1, none⟩ = some (.slice E1 g.f1.length e1) := (blk_cell KX.out 1).trans rfl
              have zX2_ : W18.cell? ⟨gx, 2, none⟩ = some (.slice E2 g.f2.length e2) := (blk_cell KX.out 2).trans rfl
              have zX3_ : W18.cell? ⟨gx, 3, none⟩ = some (.slice E3 g.f3.length e3) := (blk_cell KX.out 3).trans rfl
              have zY0_ : W18.cell? ⟨gy, 0, none⟩ = some (.int .i64 p.f0) := (blk_cell KY.out 0).trans rfl
              have zY1_ : W18.cell? ⟨gy, 1, none⟩ = some (.slice F1 p.f1.length f1) := (blk_cell KY.out 1).trans rfl
              have zY2_ : W18.cell? ⟨gy, 2, none⟩ = some (.slice F2 p.f2.length f2) := (blk_cell KY.out 2).trans rfl
              have zY3_ : W18.cell? ⟨gy, 3, none⟩ = some (.slice F3 p.f3.length f3) := (blk_cell KY.out 3).trans rfl
              have zU0_ : W18.cell? ⟨gU, 0, none⟩ = some (.int .i64 (findV g q).f0) := (blk_cell KU.out 0).trans rfl
              have zU1_ : W18.cell? ⟨gU, 1, none⟩ = some (.slice U1 (findV g q).f1.length yU1) := (blk_cell KU.out 1).trans rfl
              have zU2_ : W18.cell? ⟨gU, 2, none⟩ = some (.slice U2 (findV g q).f2.length yU2) := (blk_cell KU.out 2).trans rfl
              have zU3_ : W18.cell? ⟨gU, 3, none⟩ = some (.slice U3 (findV g q).f3.length yU3) := (blk_cell KU.out 3).trans rfl
              have zV0_ : W18.cell? ⟨gV, 0, none⟩ = some (.int .i64 (findV g q).f0) := (blk_cell KV.out 0).trans rfl
              have zV1_ : W18.cell? ⟨gV, 1, none⟩ = some (.slice V1 (findV g q).f1.length yV1) := (blk_cell KV.out 1).trans rfl
              have zV2_ : W18.cell? ⟨gV, 2, none⟩ = some (.slice V2 (findV g q).f2.length yV2) := (blk_cell KV.out 2).trans rfl
              have zV3_ : W18.cell? ⟨gV, 3, none⟩ = some (.slice V3 (findV g q).f3.length yV3) := (blk_cell KV.out 3).trans rfl
              have zS0_ : W18.cell? ⟨gS, 0, none⟩ = some (.int .i64 (putV g q p).f0) := (blk_cell KS.out 0).trans rfl
              have zS1_ : W18.cell? ⟨gS, 1, none⟩ = some (.slice S1 (putV g q p).f1.length yS1) := (blk_cell KS.out 1).trans rfl
              have zS2_ : W18.cell? ⟨gS, 2, none⟩ = some (.slice S2 (putV g q p).f2.length yS2) := (blk_cell KS.out 2).trans rfl
              have zS3_ : W18.cell? ⟨gS, 3, none⟩ = some (.slice S3 (putV g q p).f3.length yS3) := (blk_cell KS.out 3).trans rfl
              have zZ0_ : W18.cell? ⟨gZ, 0, none⟩ = some (.int .i64 (putV g q p).f0) := (blk_cell KZ.out 0).trans rfl
              have zZ1_ : W18.cell? ⟨gZ, 1, none⟩ = some (.slice Z1 (putV g q p).f1.length yZ1) := (blk_cell KZ.out 1).trans rfl
              have zZ2_ : W18.cell? ⟨gZ, 2, none⟩ = some (.slice Z2 (putV g q p).f2.length yZ2) := (blk_cell KZ.out 2).trans rfl
              have zZ3_ : W18.cell? ⟨gZ, 3, none⟩ = some (.slice Z3 (putV g q p).f3.length yZ3) := (blk_cell KZ.out 3).trans rfl
              have z9_ : W18.cell? (a5.add q.length) = some (.int .i64 9) := HW9.out
              go_wp2_with fail
              go_ret
              exact ⟨rfl, HB.out⟩
end Go.Proofs.Ytmcbniobbbjdjaa.Tree
