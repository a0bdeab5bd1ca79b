/- The law TreeFlats by contract, at trees that weigh no more than the bound, where the package errors' variable is laid. No conditions but those told. -/
import Derived.Test.YtmcbniobbbjdjaaDoorTSmall
import Derived.Test.YtmcbniobbbjdjaaDoorTAlive
import Derived.Test.YtmcbniobbbjdjaaDoorTRoomy
import Derived.Test.YtmcbniobbbjdjaaDoorTKept
import Derived.Test.YtmcbniobbbjdjaaDoorTErrs
import Derived.Test.YtmcbniobbbjdjaaDoorTRFlat
import Derived.Test.YtmcbniobbbjdjaaDoorTGeos
namespace Go.Proofs.YtmcbniobbbjdjaaDoor.Tree
open Go.RowKit Go.Proofs.YtmcbniobbbjdjaaDoorW.PrintWords Go.Proofs.YtmcbniobbbjdjaaDoorW.PrintLast Go.Proofs.YtmcbniobbbjdjaaDoorW.PrintMore
set_option linter.unusedVariables false
set_option linter.unusedSimpArgs false
theorem isB_self' (x : Option (Int × Int)) : isB x (codeOf x) (placeOf x) = true := by unfold isB; simp
theorem scan_none : ∀ (l : List It) (k n : Nat), l ≠ [] → scanC k n l = none → n + l.length + ptsOf l ≤ 65536 := by
  intro l
  induction l with
  | nil => intro k n h; exact absurd rfl h
  | cons x l ih =>
    intro k n _ h
    rw [scanC_cons] at h
    split at h
    · rename_i h0
      have h1 : n + 1 + (own x.f0).length ≤ 65536 := by
        rcases Nat.lt_or_ge 65536 (n + 1 + (own x.f0).length) with h2 | h2
        · exact absurd h0 (wrong_many x _ (by omega))
        · exact h2
      rw [List.length_cons, ptsOf_cons]
      cases l with
      | nil => simp [ptsOf]; omega
      | cons y l => have := ih _ _ (by simp) h; omega
    · cases h
theorem check_big {g : Ge} (h : isSmall g = false) : ∃ e, checkR g = some e := by
  cases hc : checkR g with
  | some e => exact ⟨e, rfl⟩
  | none =>
    have h1 := scan_none (nodes g 1 0) 0 0 (by rw [nodes_eq]; simp) hc
    have h2 := (isSmall_iff g).2 (by omega)
    rw [h] at h2
    cases h2
def flatL (g : Ge) : List Nd := match checkR g with
  | some _ => []
  | none => (nodes g 1 0).map fun y => nodeOf y.f0
theorem FlatRes.got {w w' : World} {g : Ge} {u ev : Value} (h : FlatRes w w' g u ev) : Kd.R kNd 54 w' w.heap.size (fun _ => True) u (flatL g) ∧ ErrV w' ev (checkR g) := by
  unfold FlatRes at h
  unfold flatL
  cases hc : checkR g with
  | some e => rw [hc] at h; obtain ⟨rfl, h⟩ := h; exact ⟨Kd.R_nil _ _ _ _ _, h⟩
  | none => rw [hc] at h; exact h
theorem RFlatRes.got {w w' : World} {g : Ge} {u : Value} (h : RFlatRes w w' g u) : Kd.R kNd 54 w' w.heap.size (fun _ => True) u (flatL g) := by
  unfold RFlatRes at h
  unfold flatL
  cases hc : checkR g with
  | some e => rw [hc] at h; subst h; exact Kd.R_nil _ _ _ _ _
  | none => rw [hc] at h; exact h
theorem flatL_len (g : Ge) : (flatL g).length ≤ g.bulk := by
  unfold flatL
  split
  · simp
  · rw [List.length_map, ← geos_len]; have := pts_bulk g; omega
theorem flatL_mem {g : Ge} {x : Nd} (h : x ∈ flatL g) : x.f1.length ≤ g.bulk + 1 ∧ x.f2.length ≤ g.bulk := by
  unfold flatL at h
  split at h
  · cases h
  · obtain ⟨y, hy, rfl⟩ := List.mem_map.1 h
    have h1 := nodes_bulk hy
    have h2 := y.f0.bulk_eq
    have h3 := own_len y.f0
    refine ⟨?_, ?_⟩
    · show (sizesOf y.f0).length ≤ _
      unfold sizesOf
      split
      · simp
      · split
        · rw [List.length_map]; omega
        · simp
    · show (lineOf y.f0).length ≤ _
      unfold lineOf
      split <;> omega
set_option maxRecDepth 100000 in
set_option maxHeartbeats 16000000 in
theorem flats_calls (v : Value) (g : Ge) (w : World) (hv : IsG w v g) (hbk : g.bulk ≤ 1048576) (hh : Handle w) :
    Calls Tryd.prog 4 #[v] w fun e w' => e = .returned (.bool true) ∧ Below w.heap.size w w' := by
  have HV := Aside0.mk hv
  have HH0 := Aside0.mk hh
  obtain ⟨A1, c1, A2, c2, A3, c3, rfl, _⟩ := hv
  clear hh
  have hun := Tryd.underlying26
  go_enter Tryd.func4, Tryd.ntmps4
  go_wp2_with fail
  obtain ⟨ga, hga⟩ : ∃ x, x = w.heap.size := ⟨_, rfl⟩
  obtain ⟨W0, hW0⟩ : ∃ x, x = w.alloc (.cells #[.int .i64 g.f0, .slice A1 g.f1.length c1, .slice A2 g.f2.length c2, .slice A3 g.f3.length c3] 26) := ⟨_, rfl⟩
  rw [← hW0, ← hga]
  have KA := Aside0.mk (show W0.heap[ga]? = some (.cells #[.int .i64 g.f0, .slice A1 g.f1.length c1, .slice A2 g.f2.length c2, .slice A3 g.f3.length c3] 26 (0, 0)) by rw [hW0, hga]; exact World.alloc_heap_new _ _)
  have HB := Aside0.mk (show Below w.heap.size w W0 by rw [hW0]; exact below_alloc (Below.refl _ _) _)
  have IA := Aside0.mk (HV.out.below HB.out)
  have HH := Aside0.mk (Handle_below HH0.out HB.out)
  clear hW0 hga HH0
  obtain ⟨cd, hcd⟩ : ∃ x, x = codeOf (checkR g) := ⟨_, rfl⟩
  obtain ⟨pl, hpl⟩ : ∃ x, x = placeOf (checkR g) := ⟨_, rfl⟩
  have HIS := Aside0.mk (show isB (checkR g) cd pl = true by rw [hcd, hpl]; exact isB_self' _)
  have HCD := Aside0.mk (And.intro hcd hpl)
  clear hcd hpl
  obtain ⟨L, hL⟩ : ∃ x, x = flatL g := ⟨_, rfl⟩
  have hLl : L.length ≤ 1073741824 := by have := flatL_len g; rw [hL]; omega
  have HLM := Aside0.mk (show ∀ x ∈ L, x.f1.length ≤ 1073741824 ∧ x.f2.length ≤ 1073741824 by
    intro x hx
    rw [hL] at hx
    have := flatL_mem hx
    omega)
  have HL := Aside0.mk hL
  clear hL
  refine (small_calls _ g W0 IA.out (by omega)).mono ?_
  rintro e W1 ⟨rfl, hb_⟩
  have n_ := Aside0.mk (blk_below KA.out hb_)
  clear KA
  have KA := n_
  clear n_
  have n_ := Aside0.mk (IA.out.below hb_)
  clear IA
  have IA := n_
  clear n_
  have n_ := Aside0.mk (below_step HB.out hb_)
  clear HB
  have HB := n_
  clear n_
  have n_ := Aside0.mk (Handle_below HH.out hb_)
  clear HH
  have HH := n_
  clear n_
  clear hb_
  have zA0_ : W1.cell? ⟨ga, 0, none⟩ = some (.int .i64 g.f0) := (blk_cell KA.out 0).trans rfl
  have zA1_ : W1.cell? ⟨ga, 1, none⟩ = some (.slice A1 g.f1.length c1) := (blk_cell KA.out 1).trans rfl
  have zA2_ : W1.cell? ⟨ga, 2, none⟩ = some (.slice A2 g.f2.length c2) := (blk_cell KA.out 2).trans rfl
  have zA3_ : W1.cell? ⟨ga, 3, none⟩ = some (.slice A3 g.f3.length c3) := (blk_cell KA.out 3).trans rfl
  cases hs1 : isSmall g with
  | false =>
    have hL0 : L.length = 0 := by obtain ⟨e, he⟩ := check_big hs1; rw [HL.out]; unfold flatL; rw [he]; rfl
    clear hs1
    go_wp2_with fail
    clear zA0_ zA1_ zA2_ zA3_
    refine (flat_calls _ g W1 IA.out (by omega)).mono ?_
    rintro e W2 ⟨ul, ue, rfl, hf_, hb_⟩
    obtain ⟨hr_, he_⟩ := hf_.got
    rw [← HL.out] at hr_
    obtain ⟨AU, cU, rfl⟩ := Kd.R_slice hr_
    have FU := Aside0.mk hr_
    have EE := Aside0.mk he_
    clear hr_ he_ hf_
    have n_ := Aside0.mk (blk_below KA.out hb_)
    clear KA
    have KA := n_
    clear n_
    have n_ := Aside0.mk (IA.out.below hb_)
    clear IA
    have IA := n_
    clear n_
    have n_ := Aside0.mk (below_step HB.out hb_)
    clear HB
    have HB := n_
    clear n_
    have n_ := Aside0.mk (Handle_below HH.out hb_)
    clear HH
    have HH := n_
    clear n_
    clear hb_
    have zA0_ : W2.cell? ⟨ga, 0, none⟩ = some (.int .i64 g.f0) := (blk_cell KA.out 0).trans rfl
    have zA1_ : W2.cell? ⟨ga, 1, none⟩ = some (.slice A1 g.f1.length c1) := (blk_cell KA.out 1).trans rfl
    have zA2_ : W2.cell? ⟨ga, 2, none⟩ = some (.slice A2 g.f2.length c2) := (blk_cell KA.out 2).trans rfl
    have zA3_ : W2.cell? ⟨ga, 3, none⟩ = some (.slice A3 g.f3.length c3) := (blk_cell KA.out 3).trans rfl
    go_wp2_with fail
    clear zA0_ zA1_ zA2_ zA3_
    refine (rcheck_calls _ g W2 IA.out (by omega)).mono ?_
    rintro e W3 ⟨rfl, hb_⟩
    rw [← HCD.out.1, ← HCD.out.2]
    have n_ := Aside0.mk (blk_below KA.out hb_)
    clear KA
    have KA := n_
    clear n_
    have n_ := Aside0.mk (IA.out.below hb_)
    clear IA
    have IA := n_
    clear n_
    have n_ := Aside0.mk (below_step HB.out hb_)
    clear HB
    have HB := n_
    clear n_
    have n_ := Aside0.mk (Handle_below HH.out hb_)
    clear HH
    have HH := n_
    clear n_
    have n_ := Aside0.mk (Kd.R_below FU.out hb_)
    clear FU
    have FU := n_
    clear n_
    have n_ := Aside0.mk (EE.out.below hb_)
    clear EE
    have EE := n_
    clear n_
    clear hb_
    have zA0_ : W3.cell? ⟨ga, 0, none⟩ = some (.int .i64 g.f0) := (blk_cell KA.out 0).trans rfl
    have zA1_ : W3.cell? ⟨ga, 1, none⟩ = some (.slice A1 g.f1.length c1) := (blk_cell KA.out 1).trans rfl
    have zA2_ : W3.cell? ⟨ga, 2, none⟩ = some (.slice A2 g.f2.length c2) := (blk_cell KA.out 2).trans rfl
    have zA3_ : W3.cell? ⟨ga, 3, none⟩ = some (.slice A3 g.f3.length c3) := (blk_cell KA.out 3).trans rfl
    go_wp2_with fail
    have q0 : ((L.length : Int) == 0) = true := beq_iff_eq.mpr (by omega)
    have q1 : (L.length : Int) = 0 := by omega
    clear zA0_ zA1_ zA2_ zA3_
    refine (alive_calls W3).mono ?_
    rintro e W4 ⟨rfl, hb_⟩
    have n_ := Aside0.mk (blk_below KA.out hb_)
    clear KA
    have KA := n_
    clear n_
    have n_ := Aside0.mk (IA.out.below hb_)
    clear IA
    have IA := n_
    clear n_
    have n_ := Aside0.mk (below_step HB.out hb_)
    clear HB
    have HB := n_
    clear n_
    have n_ := Aside0.mk (Handle_below HH.out hb_)
    clear HH
    have HH := n_
    clear n_
    have n_ := Aside0.mk (Kd.R_below FU.out hb_)
    clear FU
    have FU := n_
    clear n_
    have n_ := Aside0.mk (EE.out.below hb_)
    clear EE
    have EE := n_
    clear n_
    clear hb_
    have zA0_ : W4.cell? ⟨ga, 0, none⟩ = some (.int .i64 g.f0) := (blk_cell KA.out 0).trans rfl
    have zA1_ : W4.cell? ⟨ga, 1, none⟩ = some (.slice A1 g.f1.length c1) := (blk_cell KA.out 1).trans rfl
    have zA2_ : W4.cell? ⟨ga, 2, none⟩ = some (.slice A2 g.f2.length c2) := (blk_cell KA.out 2).trans rfl
    have zA3_ : W4.cell? ⟨ga, 3, none⟩ = some (.slice A3 g.f3.length c3) := (blk_cell KA.out 3).trans rfl
    go_wp2_with fail
    clear zA0_ zA1_ zA2_ zA3_
    refine (is_calls ue (checkR g) cd pl W4 HH.out EE.out).mono ?_
    rintro e W5 ⟨rfl, hb_⟩
    rw [HIS.out]
    have n_ := Aside0.mk (blk_below KA.out hb_)
    clear KA
    have KA := n_
    clear n_
    have n_ := Aside0.mk (IA.out.below hb_)
    clear IA
    have IA := n_
    clear n_
    have n_ := Aside0.mk (below_step HB.out hb_)
    clear HB
    have HB := n_
    clear n_
    have n_ := Aside0.mk (Handle_below HH.out hb_)
    clear HH
    have HH := n_
    clear n_
    have n_ := Aside0.mk (Kd.R_below FU.out hb_)
    clear FU
    have FU := n_
    clear n_
    have n_ := Aside0.mk (EE.out.below hb_)
    clear EE
    have EE := n_
    clear n_
    clear hb_
    have zA0_ : W5.cell? ⟨ga, 0, none⟩ = some (.int .i64 g.f0) := (blk_cell KA.out 0).trans rfl
    have zA1_ : W5.cell? ⟨ga, 1, none⟩ = some (.slice A1 g.f1.length c1) := (blk_cell KA.out 1).trans rfl
    have zA2_ : W5.cell? ⟨ga, 2, none⟩ = some (.slice A2 g.f2.length c2) := (blk_cell KA.out 2).trans rfl
    have zA3_ : W5.cell? ⟨ga, 3, none⟩ = some (.slice A3 g.f3.length c3) := (blk_cell KA.out 3).trans rfl
    go_wp2_with fail
    go_ret
    exact ⟨rfl, HB.out⟩
  | true =>
    have HSM := Aside0.mk hs1
    clear hs1
    go_wp2_with fail
    clear zA0_ zA1_ zA2_ zA3_
    refine (roomy_calls g.bulk _ g W1 IA.out (Nat.le_refl _) (by omega)).mono ?_
    rintro e W2 ⟨cs, rfl, hM, hb_⟩
    have hK := (kRm g.bulk).K_of_M hM
    obtain ⟨E1, e1, E2, e2, E3, e3, rfl, _⟩ := kGe_open (kRm_isK _ _ _ _ hK)
    have n_ := Aside0.mk (blk_below KA.out hb_)
    clear KA
    have KA := n_
    clear n_
    have n_ := Aside0.mk (IA.out.below hb_)
    clear IA
    have IA := n_
    clear n_
    have n_ := Aside0.mk (below_step HB.out hb_)
    clear HB
    have HB := n_
    clear n_
    have n_ := Aside0.mk (Handle_below HH.out hb_)
    clear HH
    have HH := n_
    clear n_
    clear hb_
    have RX := Aside0.mk (show RoomyAt g.bulk W2 (.agg #[.int .i64 g.f0, .slice E1 g.f1.length e1, .slice E2 g.f2.length e2, .slice E3 g.f3.length e3]) g from ⟨_, rfl, hK⟩)
    clear hM hK
    have zA0_ : (W2.alloc (.cells #[.int .i64 g.f0, .slice E1 g.f1.length e1, .slice E2 g.f2.length e2, .slice E3 g.f3.length e3] 26)).cell? ⟨ga, 0, none⟩ = some (.int .i64 g.f0) := (blk_cell (blk_alloc KA.out _) 0).trans rfl
    have zA1_ : (W2.alloc (.cells #[.int .i64 g.f0, .slice E1 g.f1.length e1, .slice E2 g.f2.length e2, .slice E3 g.f3.length e3] 26)).cell? ⟨ga, 1, none⟩ = some (.slice A1 g.f1.length c1) := (blk_cell (blk_alloc KA.out _) 1).trans rfl
    have zA2_ : (W2.alloc (.cells #[.int .i64 g.f0, .slice E1 g.f1.length e1, .slice E2 g.f2.length e2, .slice E3 g.f3.length e3] 26)).cell? ⟨ga, 2, none⟩ = some (.slice A2 g.f2.length c2) := (blk_cell (blk_alloc KA.out _) 2).trans rfl
    have zA3_ : (W2.alloc (.cells #[.int .i64 g.f0, .slice E1 g.f1.length e1, .slice E2 g.f2.length e2, .slice E3 g.f3.length e3] 26)).cell? ⟨ga, 3, none⟩ = some (.slice A3 g.f3.length c3) := (blk_cell (blk_alloc KA.out _) 3).trans rfl
    go_wp2_with fail
    clear zA0_ zA1_ zA2_ zA3_
    obtain ⟨gx, hgx_⟩ : ∃ x, x = W2.heap.size := ⟨_, rfl⟩
    obtain ⟨W3, hW3_⟩ : ∃ x, x = W2.alloc (.cells #[.int .i64 g.f0, .slice E1 g.f1.length e1, .slice E2 g.f2.length e2, .slice E3 g.f3.length e3] 26) := ⟨_, rfl⟩
    rw [← hW3_, ← hgx_]
    have KX := Aside0.mk (show W3.heap[gx]? = some (.cells #[.int .i64 g.f0, .slice E1 g.f1.length e1, .slice E2 g.f2.length e2, .slice E3 g.f3.length e3] 26 (0, 0)) by rw [hW3_, hgx_]; exact World.alloc_heap_new _ _)
    have hb_ : Below W2.heap.size W2 W3 := by rw [hW3_]; exact below_alloc (Below.refl _ _) _
    clear hW3_ hgx_
    have n_ := Aside0.mk (blk_below KA.out hb_)
    clear KA
    have KA := n_
    clear n_
    have n_ := Aside0.mk (IA.out.below hb_)
    clear IA
    have IA := n_
    clear n_
    have n_ := Aside0.mk (below_step HB.out hb_)
    clear HB
    have HB := n_
    clear n_
    have n_ := Aside0.mk (Handle_below HH.out hb_)
    clear HH
    have HH := n_
    clear n_
    have n_ := Aside0.mk (RX.out.below hb_)
    clear RX
    have RX := n_
    clear n_
    clear hb_
    refine (flat_calls _ g W3 RX.out.isG (by omega)).mono ?_
    rintro e W4 ⟨ul, ue, rfl, hf_, hb_⟩
    obtain ⟨hr_, he_⟩ := hf_.got
    rw [← HL.out] at hr_
    obtain ⟨AU, cU, rfl⟩ := Kd.R_slice hr_
    have FU := Aside0.mk hr_
    have EE := Aside0.mk he_
    clear hr_ he_ hf_
    have n_ := Aside0.mk (blk_below KA.out hb_)
    clear KA
    have KA := n_
    clear n_
    have n_ := Aside0.mk (IA.out.below hb_)
    clear IA
    have IA := n_
    clear n_
    have n_ := Aside0.mk (below_step HB.out hb_)
    clear HB
    have HB := n_
    clear n_
    have n_ := Aside0.mk (Handle_below HH.out hb_)
    clear HH
    have HH := n_
    clear n_
    have n_ := Aside0.mk (RX.out.below hb_)
    clear RX
    have RX := n_
    clear n_
    have n_ := Aside0.mk (blk_below KX.out hb_)
    clear KX
    have KX := n_
    clear n_
    clear hb_
    have zA0_ : W4.cell? ⟨ga, 0, none⟩ = some (.int .i64 g.f0) := (blk_cell KA.out 0).trans rfl
    have zA1_ : W4.cell? ⟨ga, 1, none⟩ = some (.slice A1 g.f1.length c1) := (blk_cell KA.out 1).trans rfl
    have zA2_ : W4.cell? ⟨ga, 2, none⟩ = some (.slice A2 g.f2.length c2) := (blk_cell KA.out 2).trans rfl
    have zA3_ : W4.cell? ⟨ga, 3, none⟩ = some (.slice A3 g.f3.length c3) := (blk_cell KA.out 3).trans rfl
    have zX0_ : W4.cell? ⟨gx, 0, none⟩ = some (.int .i64 g.f0) := (blk_cell KX.out 0).trans rfl
    have zX1_ : W4.cell? ⟨gx, 1, none⟩ = some (.slice E1 g.f1.length e1) := (blk_cell KX.out 1).trans rfl
    have zX2_ : W4.cell? ⟨gx, 2, none⟩ = some (.slice E2 g.f2.length e2) := (blk_cell KX.out 2).trans rfl
    have zX3_ : W4.cell? ⟨gx, 3, none⟩ = some (.slice E3 g.f3.length e3) := (blk_cell KX.out 3).trans rfl
    go_wp2_with fail
    clear zA0_ zA1_ zA2_ zA3_ zX0_ zX1_ zX2_ zX3_
    refine (rflat_calls _ g W4 IA.out (by omega) HSM.out).mono ?_
    rintro e W5 ⟨um, rfl, hf_, hb_⟩
    rw [← HCD.out.1, ← HCD.out.2]
    have hr_ := hf_.got
    rw [← HL.out] at hr_
    obtain ⟨AM, cM, rfl⟩ := Kd.R_slice hr_
    have FM := Aside0.mk hr_
    clear hr_ hf_
    have n_ := Aside0.mk (blk_below KA.out hb_)
    clear KA
    have KA := n_
    clear n_
    have n_ := Aside0.mk (IA.out.below hb_)
    clear IA
    have IA := n_
    clear n_
    have n_ := Aside0.mk (below_step HB.out hb_)
    clear HB
    have HB := n_
    clear n_
    have n_ := Aside0.mk (Handle_below HH.out hb_)
    clear HH
    have HH := n_
    clear n_
    have n_ := Aside0.mk (RX.out.below hb_)
    clear RX
    have RX := n_
    clear n_
    have n_ := Aside0.mk (blk_below KX.out hb_)
    clear KX
    have KX := n_
    clear n_
    have n_ := Aside0.mk (Kd.R_below FU.out hb_)
    clear FU
    have FU := n_
    clear n_
    have n_ := Aside0.mk (EE.out.below hb_)
    clear EE
    have EE := n_
    clear n_
    clear hb_
    have zA0_ : W5.cell? ⟨ga, 0, none⟩ = some (.int .i64 g.f0) := (blk_cell KA.out 0).trans rfl
    have zA1_ : W5.cell? ⟨ga, 1, none⟩ = some (.slice A1 g.f1.length c1) := (blk_cell KA.out 1).trans rfl
    have zA2_ : W5.cell? ⟨ga, 2, none⟩ = some (.slice A2 g.f2.length c2) := (blk_cell KA.out 2).trans rfl
    have zA3_ : W5.cell? ⟨ga, 3, none⟩ = some (.slice A3 g.f3.length c3) := (blk_cell KA.out 3).trans rfl
    have zX0_ : W5.cell? ⟨gx, 0, none⟩ = some (.int .i64 g.f0) := (blk_cell KX.out 0).trans rfl
    have zX1_ : W5.cell? ⟨gx, 1, none⟩ = some (.slice E1 g.f1.length e1) := (blk_cell KX.out 1).trans rfl
    have zX2_ : W5.cell? ⟨gx, 2, none⟩ = some (.slice E2 g.f2.length e2) := (blk_cell KX.out 2).trans rfl
    have zX3_ : W5.cell? ⟨gx, 3, none⟩ = some (.slice E3 g.f3.length e3) := (blk_cell KX.out 3).trans rfl
    go_wp2_with fail
    clear zA0_ zA1_ zA2_ zA3_ zX0_ zX1_ zX2_ zX3_
    refine (alive_calls W5).mono ?_
    rintro e W6 ⟨rfl, hb_⟩
    have n_ := Aside0.mk (blk_below KA.out hb_)
    clear KA
    have KA := n_
    clear n_
    have n_ := Aside0.mk (IA.out.below hb_)
    clear IA
    have IA := n_
    clear n_
    have n_ := Aside0.mk (below_step HB.out hb_)
    clear HB
    have HB := n_
    clear n_
    have n_ := Aside0.mk (Handle_below HH.out hb_)
    clear HH
    have HH := n_
    clear n_
    have n_ := Aside0.mk (RX.out.below hb_)
    clear RX
    have RX := n_
    clear n_
    have n_ := Aside0.mk (blk_below KX.out hb_)
    clear KX
    have KX := n_
    clear n_
    have n_ := Aside0.mk (Kd.R_below FU.out hb_)
    clear FU
    have FU := n_
    clear n_
    have n_ := Aside0.mk (EE.out.below hb_)
    clear EE
    have EE := n_
    clear n_
    have n_ := Aside0.mk (Kd.R_below FM.out hb_)
    clear FM
    have FM := n_
    clear n_
    clear hb_
    have zA0_ : W6.cell? ⟨ga, 0, none⟩ = some (.int .i64 g.f0) := (blk_cell KA.out 0).trans rfl
    have zA1_ : W6.cell? ⟨ga, 1, none⟩ = some (.slice A1 g.f1.length c1) := (blk_cell KA.out 1).trans rfl
    have zA2_ : W6.cell? ⟨ga, 2, none⟩ = some (.slice A2 g.f2.length c2) := (blk_cell KA.out 2).trans rfl
    have zA3_ : W6.cell? ⟨ga, 3, none⟩ = some (.slice A3 g.f3.length c3) := (blk_cell KA.out 3).trans rfl
    have zX0_ : W6.cell? ⟨gx, 0, none⟩ = some (.int .i64 g.f0) := (blk_cell KX.out 0).trans rfl
    have zX1_ : W6.cell? ⟨gx, 1, none⟩ = some (.slice E1 g.f1.length e1) := (blk_cell KX.out 1).trans rfl
    have zX2_ : W6.cell? ⟨gx, 2, none⟩ = some (.slice E2 g.f2.length e2) := (blk_cell KX.out 2).trans rfl
    have zX3_ : W6.cell? ⟨gx, 3, none⟩ = some (.slice E3 g.f3.length e3) := (blk_cell KX.out 3).trans rfl
    go_wp2_with fail
    refine (eqNodes_calls AU AM cU cM L W6 (Kd.R_reads' FU.out).2.2 (Kd.R_reads' FM.out).2.2 hLl HLM.out).mono ?_
    rintro e w9 ⟨rfl, nb, rfl⟩
    clear zA0_ zA1_ zA2_ zA3_ zX0_ zX1_ zX2_ zX3_
    have n_ := Aside0.mk (blk_below KA.out (pw_below_drewN (Below.refl W6.heap.size W6) nb))
    clear KA
    have KA := n_
    clear n_
    have n_ := Aside0.mk (IA.out.below (pw_below_drewN (Below.refl W6.heap.size W6) nb))
    clear IA
    have IA := n_
    clear n_
    have n_ := Aside0.mk (below_step HB.out (pw_below_drewN (Below.refl W6.heap.size W6) nb))
    clear HB
    have HB := n_
    clear n_
    have n_ := Aside0.mk (Handle_below HH.out (pw_below_drewN (Below.refl W6.heap.size W6) nb))
    clear HH
    have HH := n_
    clear n_
    have n_ := Aside0.mk (RX.out.below (pw_below_drewN (Below.refl W6.heap.size W6) nb))
    clear RX
    have RX := n_
    clear n_
    have n_ := Aside0.mk (blk_below KX.out (pw_below_drewN (Below.refl W6.heap.size W6) nb))
    clear KX
    have KX := n_
    clear n_
    have n_ := Aside0.mk (Kd.R_below FU.out (pw_below_drewN (Below.refl W6.heap.size W6) nb))
    clear FU
    have FU := n_
    clear n_
    have n_ := Aside0.mk (EE.out.below (pw_below_drewN (Below.refl W6.heap.size W6) nb))
    clear EE
    have EE := n_
    clear n_
    have n_ := Aside0.mk (Kd.R_below FM.out (pw_below_drewN (Below.refl W6.heap.size W6) nb))
    clear FM
    have FM := n_
    clear n_
    have zA0_ : (W6.drewN nb).cell? ⟨ga, 0, none⟩ = some (.int .i64 g.f0) := (blk_cell KA.out 0).trans rfl
    have zA1_ : (W6.drewN nb).cell? ⟨ga, 1, none⟩ = some (.slice A1 g.f1.length c1) := (blk_cell KA.out 1).trans rfl
    have zA2_ : (W6.drewN nb).cell? ⟨ga, 2, none⟩ = some (.slice A2 g.f2.length c2) := (blk_cell KA.out 2).trans rfl
    have zA3_ : (W6.drewN nb).cell? ⟨ga, 3, none⟩ = some (.slice A3 g.f3.length c3) := (blk_cell KA.out 3).trans rfl
    have zX0_ : (W6.drewN nb).cell? ⟨gx, 0, none⟩ = some (.int .i64 g.f0) := (blk_cell KX.out 0).trans rfl
    have zX1_ : (W6.drewN nb).cell? ⟨gx, 1, none⟩ = some (.slice E1 g.f1.length e1) := (blk_cell KX.out 1).trans rfl
    have zX2_ : (W6.drewN nb).cell? ⟨gx, 2, none⟩ = some (.slice E2 g.f2.length e2) := (blk_cell KX.out 2).trans rfl
    have zX3_ : (W6.drewN nb).cell? ⟨gx, 3, none⟩ = some (.slice E3 g.f3.length e3) := (blk_cell KX.out 3).trans rfl
    go_wp2_with fail
    clear zA0_ zA1_ zA2_ zA3_ zX0_ zX1_ zX2_ zX3_
    refine (is_calls ue (checkR g) cd pl (W6.drewN nb) HH.out EE.out).mono ?_
    rintro e W7 ⟨rfl, hb_⟩
    rw [HIS.out]
    have n_ := Aside0.mk (blk_below KA.out hb_)
    clear KA
    have KA := n_
    clear n_
    have n_ := Aside0.mk (IA.out.below hb_)
    clear IA
    have IA := n_
    clear n_
    have n_ := Aside0.mk (below_step HB.out hb_)
    clear HB
    have HB := n_
    clear n_
    have n_ := Aside0.mk (Handle_below HH.out hb_)
    clear HH
    have HH := n_
    clear n_
    have n_ := Aside0.mk (RX.out.below hb_)
    clear RX
    have RX := n_
    clear n_
    have n_ := Aside0.mk (blk_below KX.out hb_)
    clear KX
    have KX := n_
    clear n_
    have n_ := Aside0.mk (Kd.R_below FU.out hb_)
    clear FU
    have FU := n_
    clear n_
    have n_ := Aside0.mk (EE.out.below hb_)
    clear EE
    have EE := n_
    clear n_
    have n_ := Aside0.mk (Kd.R_below FM.out hb_)
    clear FM
    have FM := n_
    clear n_
    clear hb_
    have zA0_ : W7.cell? ⟨ga, 0, none⟩ = some (.int .i64 g.f0) := (blk_cell KA.out 0).trans rfl
    have zA1_ : W7.cell? ⟨ga, 1, none⟩ = some (.slice A1 g.f1.length c1) := (blk_cell KA.out 1).trans rfl
    have zA2_ : W7.cell? ⟨ga, 2, none⟩ = some (.slice A2 g.f2.length c2) := (blk_cell KA.out 2).trans rfl
    have zA3_ : W7.cell? ⟨ga, 3, none⟩ = some (.slice A3 g.f3.length c3) := (blk_cell KA.out 3).trans rfl
    have zX0_ : W7.cell? ⟨gx, 0, none⟩ = some (.int .i64 g.f0) := (blk_cell KX.out 0).trans rfl
    have zX1_ : W7.cell? ⟨gx, 1, none⟩ = some (.slice E1 g.f1.length e1) := (blk_cell KX.out 1).trans rfl
    have zX2_ : W7.cell? ⟨gx, 2, none⟩ = some (.slice E2 g.f2.length e2) := (blk_cell KX.out 2).trans rfl
    have zX3_ : W7.cell? ⟨gx, 3, none⟩ = some (.slice E3 g.f3.length e3) := (blk_cell KX.out 3).trans rfl
    go_wp2_with fail
    clear zA0_ zA1_ zA2_ zA3_ zX0_ zX1_ zX2_ zX3_
    refine (kept_calls g.bulk _ _ g W7 RX.out IA.out (by omega)).mono ?_
    rintro e W8 ⟨rfl, hb_⟩
    have n_ := Aside0.mk (blk_below KA.out hb_)
    clear KA
    have KA := n_
    clear n_
    have n_ := Aside0.mk (IA.out.below hb_)
    clear IA
    have IA := n_
    clear n_
    have n_ := Aside0.mk (below_step HB.out hb_)
    clear HB
    have HB := n_
    clear n_
    have n_ := Aside0.mk (Handle_below HH.out hb_)
    clear HH
    have HH := n_
    clear n_
    have n_ := Aside0.mk (RX.out.below hb_)
    clear RX
    have RX := n_
    clear n_
    have n_ := Aside0.mk (blk_below KX.out hb_)
    clear KX
    have KX := n_
    clear n_
    have n_ := Aside0.mk (Kd.R_below FU.out hb_)
    clear FU
    have FU := n_
    clear n_
    have n_ := Aside0.mk (EE.out.below hb_)
    clear EE
    have EE := n_
    clear n_
    have n_ := Aside0.mk (Kd.R_below FM.out hb_)
    clear FM
    have FM := n_
    clear n_
    clear hb_
    have zA0_ : W8.cell? ⟨ga, 0, none⟩ = some (.int .i64 g.f0) := (blk_cell KA.out 0).trans rfl
    have zA1_ : W8.cell? ⟨ga, 1, none⟩ = some (.slice A1 g.f1.length c1) := (blk_cell KA.out 1).trans rfl
    have zA2_ : W8.cell? ⟨ga, 2, none⟩ = some (.slice A2 g.f2.length c2) := (blk_cell KA.out 2).trans rfl
    have zA3_ : W8.cell? ⟨ga, 3, none⟩ = some (.slice A3 g.f3.length c3) := (blk_cell KA.out 3).trans rfl
    have zX0_ : W8.cell? ⟨gx, 0, none⟩ = some (.int .i64 g.f0) := (blk_cell KX.out 0).trans rfl
    have zX1_ : W8.cell? ⟨gx, 1, none⟩ = some (.slice E1 g.f1.length e1) := (blk_cell KX.out 1).trans rfl
    have zX2_ : W8.cell? ⟨gx, 2, none⟩ = some (.slice E2 g.f2.length e2) := (blk_cell KX.out 2).trans rfl
    have zX3_ : W8.cell? ⟨gx, 3, none⟩ = some (.slice E3 g.f3.length e3) := (blk_cell KX.out 3).trans rfl
    go_wp2_with fail
    go_ret
    exact ⟨rfl, HB.out⟩
end Go.Proofs.YtmcbniobbbjdjaaDoor.Tree
