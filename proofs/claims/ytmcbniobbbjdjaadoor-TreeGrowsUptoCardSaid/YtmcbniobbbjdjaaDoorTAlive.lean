/- The laws' sample and alive by contracts. No conditions but those told. -/
import Derived.Test.YtmcbniobbbjdjaaDoorTFlat
import Derived.Test.YtmcbniobbbjdjaaDoorTFind
namespace Go.Proofs.YtmcbniobbbjdjaaDoor.Tree
open Go.RowKit Go.Proofs.YtmcbniobbbjdjaaDoorW.PrintWords Go.Proofs.YtmcbniobbbjdjaaDoorW.PrintLast Go.Proofs.YtmcbniobbbjdjaaDoorW.PrintMore
set_option linter.unusedVariables false
set_option linter.unusedSimpArgs false
def sampleP : Ge := ⟨1, [⟨1, 2⟩], [], []⟩
def sampleQ : Ge := ⟨4, [], [], []⟩
def sampleG : Ge := ⟨7, [], [], [sampleP, sampleQ]⟩
theorem sample_nodes : nodes sampleG 1 0 = [⟨sampleG, 1, 0⟩, ⟨sampleP, 2, 7⟩, ⟨sampleQ, 2, 7⟩] := by
  simp [nodes, nodesL, sampleG, sampleP, sampleQ]
theorem sample_bulk : sampleG.bulk = 4 := by simp [Ge.bulk, bulks, sampleG, sampleP, sampleQ]
theorem sample_depth : depthOf sampleG = 2 := by unfold depthOf; rw [sample_nodes]; rfl
theorem sample_pts : ptsOf (nodes sampleG 1 0) = 1 := by rw [sample_nodes]; rfl
theorem sample_find : findR sampleG [0] = some sampleP := rfl
theorem class_1 : classOf 1 = 1 := by kernel_rfl
theorem class_2 : classOf 2 = 1 := by kernel_rfl
theorem sample_check : checkR sampleG = none := by
  have f : finL [⟨1, 2⟩] = true := by
    have h1 := class_1
    have h2 := class_2
    have e1 : finC classOf 1 = true := by unfold finC; rw [h1]; rfl
    have e2 : finC classOf 2 = true := by unfold finC; rw [h2]; rfl
    simp [finL, finLC]
    exact ⟨e1, e2⟩
  unfold checkR
  rw [sample_nodes]
  have f0 : finL [] = true := rfl
  simp [scanC, wrongC, listsB, fitsB, sampleG, sampleP, sampleQ, own, f, f0]
/-- A row that a block holds from its head on. -/
theorem C_block {α : Type} (d : Kd α) {W : World} {b t : Nat} {inner : List Value} (hb : W.heap[b]? = some (.cells inner.toArray t (0, 0))) {xs : List α} (hl : inner.length = xs.length * d.sz) (hm : xs.length ≤ 9223372036854775807)
    (hr : ∀ j p, xs[j]? = some p → d.K W p ((inner.drop (j * d.sz)).take d.sz)) : d.C W (some ⟨b, 0, none⟩) xs.length xs := by
  refine ⟨rfl, hm, fun _ => ⟨_, rfl, fun j p hj => ⟨(inner.drop (j * d.sz)).take d.sz, d.K_len (hr j p hj), hr j p hj, fun i u hu => ?_⟩⟩⟩
  rw [List.getElem?_take] at hu
  split at hu
  · rw [List.getElem?_drop] at hu
    have h := blk_cell hb (j * d.sz + i)
    rw [add_plain]
    rw [h]
    simpa using hu
  · cases hu
set_option maxRecDepth 100000 in
set_option maxHeartbeats 4000000 in
theorem sample_calls (w : World) : Calls Tryd.prog 30 #[] w fun e w' => ∃ u, e = .returned u ∧ IsG w' u sampleG ∧ Below w.heap.size w w' := by
  have hu := Tryd.underlying26
  go_enter Tryd.func30, Tryd.ntmps30
  go_wp2_with fail
  obtain ⟨W, hW⟩ : ∃ W, W = ((((w.alloc (.cells #[.int .i64 7, .slice none 0 0, .slice none 0 0, .slice (some ⟨w.heap.size + 1 + 1 + 1, 0, none⟩) 2 2] 26)).alloc (.cells #[.int .u64 1, .int .u64 2] 65)).alloc (.cells #[.int .i64 1, .slice (some ⟨w.heap.size + 1, 0, none⟩) 1 1, .slice none 0 0, .slice none 0 0] 26)).alloc (.cells #[.int .i64 1, .slice (some ⟨w.heap.size + 1, 0, none⟩) 1 1, .slice none 0 0, .slice none 0 0, .int .i64 4, .slice none 0 0, .slice none 0 0, .slice none 0 0] 26)) := ⟨_, rfl⟩
  rw [← hW]
  have b0 : W.heap[w.heap.size]? = some (.cells #[.int .i64 7, .slice none 0 0, .slice none 0 0, .slice (some ⟨w.heap.size + 1 + 1 + 1, 0, none⟩) 2 2] 26 (0, 0)) := by rw [hW]; exact heap_old (heap_old (heap_old (heap_at rfl _) _) _) _
  have b1 : W.heap[w.heap.size + 1]? = some (.cells #[.int .u64 1, .int .u64 2] 65 (0, 0)) := by rw [hW]; exact heap_old (heap_old (heap_at (by simp) _) _) _
  have b3 : W.heap[w.heap.size + 1 + 1 + 1]? = some (.cells #[.int .i64 1, .slice (some ⟨w.heap.size + 1, 0, none⟩) 1 1, .slice none 0 0, .slice none 0 0, .int .i64 4, .slice none 0 0, .slice none 0 0, .slice none 0 0] 26 (0, 0)) := by rw [hW]; exact heap_at (by simp) _
  have hb : Below w.heap.size w W := by rw [hW]; exact below_alloc (below_alloc (below_alloc (below_alloc (Below.refl _ _) _) _) _) _
  refine bodyPost_ret (results_geom (a := 0) (by rfl) _ _ (by rfl) b0) rfl ⟨_, rfl, ?_, hb⟩
  have c1 : Kd.C kPt W (some ⟨w.heap.size + 1, 0, none⟩) 1 [⟨1, 2⟩] := C_block kPt (xs := [⟨1, 2⟩]) (inner := [.int .u64 1, .int .u64 2]) b1 rfl (by decide) (fun j p hj => by
    cases j with
    | zero => obtain rfl : (⟨1, 2⟩ : Pt) = p := by simpa using hj
              exact kPt_mk W ⟨1, 2⟩
    | succ j => simp at hj)
  have c3 : Kd.C kGe W (some ⟨w.heap.size + 1 + 1 + 1, 0, none⟩) 2 [sampleP, sampleQ] := C_block kGe (xs := [sampleP, sampleQ]) (inner := [.int .i64 1, .slice (some ⟨w.heap.size + 1, 0, none⟩) 1 1, .slice none 0 0, .slice none 0 0, .int .i64 4, .slice none 0 0, .slice none 0 0, .slice none 0 0]) b3 rfl (by decide) (fun j p hj => by
    match j, hj with
    | 0, hj => obtain rfl : sampleP = p := by simpa using hj
               exact kGe_mk W sampleP (Nat.le_refl _) c1 (Nat.le_refl _) (C_none _ W) (Nat.le_refl _) (C_none _ W)
    | 1, hj => obtain rfl : sampleQ = p := by simpa using hj
               exact kGe_mk W sampleQ (Nat.le_refl _) (C_none _ W) (Nat.le_refl _) (C_none _ W) (Nat.le_refl _) (C_none _ W)
    | j + 2, hj => simp at hj)
  exact ⟨none, 0, none, 0, _, 2, rfl, Nat.le_refl _, C_none _ W, Nat.le_refl _, C_none _ W, Nat.le_refl _, c3⟩
set_option maxRecDepth 100000 in
set_option maxHeartbeats 4000000 in
theorem alive_calls (w : World) : Calls Tryd.prog 9 #[] w fun e w' => e = .returned (.bool true) ∧ Below w.heap.size w w' := by
  have hu := Tryd.underlying26
  have hsb := sample_bulk
  go_enter Tryd.func9, Tryd.ntmps9
  go_wp2_with fail
  refine (sample_calls _).mono ?_
  rintro e w1 ⟨u, rfl, hu1, hb1⟩
  obtain ⟨A1, c1, A2, c2, A3, c3, rfl, r1⟩ := hu1
  have HU := Aside0.mk (show IsG w1 (.agg #[.int .i64 sampleG.f0, .slice A1 sampleG.f1.length c1, .slice A2 sampleG.f2.length c2, .slice A3 sampleG.f3.length c3]) sampleG from ⟨A1, c1, A2, c2, A3, c3, rfl, r1⟩)
  have HB1 := Aside0.mk hb1
  clear r1 hb1
  go_wp2_with fail
  obtain ⟨gp, hgp⟩ : ∃ gp, gp = w1.heap.size := ⟨_, rfl⟩
  obtain ⟨Wb, hWb⟩ : ∃ Wb, Wb = w1.alloc (.cells #[.int .i64 sampleG.f0, .slice A1 sampleG.f1.length c1, .slice A2 sampleG.f2.length c2, .slice A3 sampleG.f3.length c3] 26) := ⟨_, rfl⟩
  rw [← hWb, ← hgp]
  have KB := Aside0.mk (show Wb.heap[gp]? = some (.cells #[.int .i64 sampleG.f0, .slice A1 sampleG.f1.length c1, .slice A2 sampleG.f2.length c2, .slice A3 sampleG.f3.length c3] 26 (0, 0)) by rw [hWb, hgp]; exact World.alloc_heap_new _ _)
  have HB := Aside0.mk (show Below w.heap.size w Wb by rw [hWb]; exact below_alloc HB1.out _)
  have HG := Aside0.mk (show IsG Wb (.agg #[.int .i64 sampleG.f0, .slice A1 sampleG.f1.length c1, .slice A2 sampleG.f2.length c2, .slice A3 sampleG.f3.length c3]) sampleG by rw [hWb]; exact HU.out.below (below_alloc (Below.refl _ _) _))
  clear hWb hgp HU HB1
  refine (count_calls _ sampleG Wb HG.out (by omega)).mono ?_
  rintro e w2 ⟨rfl, hb2⟩
  rw [sample_pts, show (nodes sampleG 1 0).length = 3 by rw [sample_nodes]; rfl]
  have KB2 := Aside0.mk (blk_below KB.out hb2)
  have HB2 := Aside0.mk (below_step HB.out hb2)
  have HG2 := Aside0.mk (HG.out.below hb2)
  clear KB HB HG hb2
  have KB := KB2
  have b0 : w2.cell? ⟨gp, 0, none⟩ = some (.int .i64 sampleG.f0) := (blk_cell KB.out 0).trans rfl
  have b1 : w2.cell? ⟨gp, 1, none⟩ = some (.slice A1 sampleG.f1.length c1) := (blk_cell KB.out 1).trans rfl
  have b2 : w2.cell? ⟨gp, 2, none⟩ = some (.slice A2 sampleG.f2.length c2) := (blk_cell KB.out 2).trans rfl
  have b3 : w2.cell? ⟨gp, 3, none⟩ = some (.slice A3 sampleG.f3.length c3) := (blk_cell KB.out 3).trans rfl
  go_wp2_with fail
  refine (Find_calls _ sampleG (some ⟨w2.heap.size, 0, none⟩) 1 1 [0] _ (HG2.out.below (below_alloc (Below.refl _ _) _)) (by omega) rfl (C_block (Kd.int .i64) (xs := [0]) (inner := [.int .i64 0]) (World.alloc_heap_new w2 _) rfl (by decide) (fun j p hj => by
    cases j with
    | zero => obtain rfl : (0 : Int) = p := by simpa using hj
              exact (rfl : [Value.int .i64 0] = [Value.int .i64 0])
    | succ j => simp at hj))).mono ?_
  rintro e w3 ⟨uf, cf, rfl, hfr, hb3⟩
  unfold FindRes at hfr
  rw [sample_find] at hfr
  obtain ⟨⟨cs, rfl, hM⟩, rfl⟩ := hfr
  obtain ⟨E1, e1, E2, e2, E3, e3, rfl, _⟩ := kGe_open (kSp_K _ ((kSp _).K_of_M hM))
  have hb3' : Below w2.heap.size w2 w3 := below_step (below_alloc (Below.refl _ _) _) hb3
  have KB3 := Aside0.mk (blk_below KB.out hb3')
  have HB3 := Aside0.mk (below_step HB2.out hb3')
  have HG3 := Aside0.mk (HG2.out.below hb3')
  clear KB HB2 HG2 hb3 hb3' hM b0 b1 b2 b3 KB2
  have KB := KB3
  have b0 : w3.cell? ⟨gp, 0, none⟩ = some (.int .i64 sampleG.f0) := (blk_cell KB.out 0).trans rfl
  have b1 : w3.cell? ⟨gp, 1, none⟩ = some (.slice A1 sampleG.f1.length c1) := (blk_cell KB.out 1).trans rfl
  have b2 : w3.cell? ⟨gp, 2, none⟩ = some (.slice A2 sampleG.f2.length c2) := (blk_cell KB.out 2).trans rfl
  have b3 : w3.cell? ⟨gp, 3, none⟩ = some (.slice A3 sampleG.f3.length c3) := (blk_cell KB.out 3).trans rfl
  have hgl := blk_lt KB.out
  have hgne : gp ≠ w3.heap.size := by omega
  go_wp2_with fail
  obtain ⟨gh, hgh⟩ : ∃ gh, gh = w3.heap.size := ⟨_, rfl⟩
  obtain ⟨Wc, hWc⟩ : ∃ Wc, Wc = w3.alloc (.cells #[.int .i64 sampleP.f0, .slice E1 sampleP.f1.length e1, .slice E2 sampleP.f2.length e2, .slice E3 sampleP.f3.length e3] 26) := ⟨_, rfl⟩
  rw [← hWc, ← hgh]
  have KH := Aside0.mk (show Wc.heap[gh]? = some (.cells #[.int .i64 sampleP.f0, .slice E1 sampleP.f1.length e1, .slice E2 sampleP.f2.length e2, .slice E3 sampleP.f3.length e3] 26 (0, 0)) by rw [hWc, hgh]; exact World.alloc_heap_new _ _)
  have hbc : Below w3.heap.size w3 Wc := by rw [hWc]; exact below_alloc (Below.refl _ _) _
  have KB4 := Aside0.mk (blk_below KB.out hbc)
  have HB4 := Aside0.mk (below_step HB3.out hbc)
  have HG4 := Aside0.mk (HG3.out.below hbc)
  clear KB KB3 HB3 HG3 hbc hWc hgh hgl hgne b0 b1 b2 b3
  refine (flat_calls _ sampleG Wc HG4.out (by omega)).mono ?_
  rintro e w4 ⟨ul, ev, rfl, hfl, hb4⟩
  unfold FlatRes at hfl
  rw [sample_check] at hfl
  obtain ⟨hl, rfl⟩ := hfl
  obtain ⟨L1, l1, el⟩ := Kd.R_slice hl
  rw [List.length_map, show (nodes sampleG 1 0).length = 3 by rw [sample_nodes]; rfl] at el
  subst el
  have KB := Aside0.mk (blk_below KB4.out hb4)
  have KH5 := Aside0.mk (blk_below KH.out hb4)
  have HB5 := Aside0.mk (below_step HB4.out hb4)
  have HG5 := Aside0.mk (HG4.out.below hb4)
  clear KB4 KH HB4 HG4 hb4 hl
  have b0 : w4.cell? ⟨gp, 0, none⟩ = some (.int .i64 sampleG.f0) := (blk_cell KB.out 0).trans rfl
  have b1 : w4.cell? ⟨gp, 1, none⟩ = some (.slice A1 sampleG.f1.length c1) := (blk_cell KB.out 1).trans rfl
  have b2 : w4.cell? ⟨gp, 2, none⟩ = some (.slice A2 sampleG.f2.length c2) := (blk_cell KB.out 2).trans rfl
  have b3 : w4.cell? ⟨gp, 3, none⟩ = some (.slice A3 sampleG.f3.length c3) := (blk_cell KB.out 3).trans rfl
  go_wp2_with fail
  refine (check_calls _ sampleG w4 HG5.out (by omega)).mono ?_
  rintro e w5 ⟨ev, rfl, hev, hb5⟩
  rw [sample_check] at hev
  obtain rfl : ev = .nilIface := hev
  have KB6 := Aside0.mk (blk_below KB.out hb5)
  have KH6 := Aside0.mk (blk_below KH5.out hb5)
  have HB6 := Aside0.mk (below_step HB5.out hb5)
  have HG6 := Aside0.mk (HG5.out.below hb5)
  clear KB KH5 HB5 HG5 hb5 b0 b1 b2 b3
  have KB := KB6
  have b0 : w5.cell? ⟨gp, 0, none⟩ = some (.int .i64 sampleG.f0) := (blk_cell KB.out 0).trans rfl
  have b1 : w5.cell? ⟨gp, 1, none⟩ = some (.slice A1 sampleG.f1.length c1) := (blk_cell KB.out 1).trans rfl
  have b2 : w5.cell? ⟨gp, 2, none⟩ = some (.slice A2 sampleG.f2.length c2) := (blk_cell KB.out 2).trans rfl
  have b3 : w5.cell? ⟨gp, 3, none⟩ = some (.slice A3 sampleG.f3.length c3) := (blk_cell KB.out 3).trans rfl
  go_wp2_with fail
  refine (depth_calls _ sampleG w5 HG6.out (by omega)).mono ?_
  rintro e w6 ⟨rfl, hb6⟩
  rw [sample_depth]
  have KH := Aside0.mk (blk_below KH6.out hb6)
  have HB := Aside0.mk (below_step HB6.out hb6)
  have h1 : w6.cell? ⟨gh, 1, none⟩ = some (.slice E1 sampleP.f1.length e1) := (blk_cell KH.out 1).trans rfl
  have hl1 : sampleP.f1.length = 1 := rfl
  rw [hl1] at h1
  clear KB KB6 KH6 HB6 HG6 hb6 b0 b1 b2 b3 hl1
  go_wp2_with fail
  go_ret
  exact ⟨rfl, HB.out⟩
end Go.Proofs.YtmcbniobbbjdjaaDoor.Tree
