/- Depth and Count by contracts. No conditions but those told. -/
import Derived.Test.YtmcbniobbbjdjaaDoorTRange
namespace Go.Proofs.YtmcbniobbbjdjaaDoor.Tree
open Go.RowKit Go.Proofs.YtmcbniobbbjdjaaDoorW.PrintWords Go.Proofs.YtmcbniobbbjdjaaDoorW.PrintLast Go.Proofs.YtmcbniobbbjdjaaDoorW.PrintMore
set_option linter.unusedVariables false
set_option linter.unusedSimpArgs false
attribute [local go_sem] Oper.semAt_some max2_int max_two
theorem blk_set1 {w : World} {g : Nat} {t : TypeId} {v : Value} (h : w.heap[g]? = some (.cells #[v] t (0, 0))) (u : Value) : (w.setCell ⟨g, 0, none⟩ u).heap[g]? = some (.cells #[u] t (0, 0)) := by simpa using blk_set h 0 u
theorem heap_old {W : World} {k : Nat} {b : Obj} (h : W.heap[k]? = some b) (o : Obj) : (W.alloc o).heap[k]? = some b := (Below.heap_alloc W o k (blk_lt h)).trans h
theorem heap_at {W : World} {k : Nat} (h : W.heap.size = k) (o : Obj) : (W.alloc o).heap[k]? = some o := by subst h; exact World.alloc_heap_new _ _
/-- The greatest level. -/
def deepest (l : List It) : Int := l.foldl (fun m x => if m < x.f1 then x.f1 else m) 0
theorem deepest_snoc (l : List It) (x : It) : deepest (l ++ [x]) = if deepest l < x.f1 then x.f1 else deepest l := by unfold deepest; rw [List.foldl_append]; rfl
def depthOf (g : Ge) : Int := deepest (nodes g 1 0)
set_option maxRecDepth 100000 in
set_option maxHeartbeats 4000000 in
theorem depth_calls (v : Value) (g : Ge) (w : World) (hv : IsG w v g) (hbk : g.bulk ≤ 1073741824) :
    Calls Tryd.prog 32 #[v] w fun e w' => e = .returned (.int .i64 (depthOf g)) ∧ Below w.heap.size w w' := by
  have hv' := hv
  obtain ⟨A1, c1, A2, c2, A3, c3, rfl, _⟩ := hv'
  obtain ⟨w0, hw0⟩ : ∃ w0, w0 = w.alloc (.cells #[.int .i64 g.f0, .slice A1 g.f1.length c1, .slice A2 g.f2.length c2, .slice A3 g.f3.length c3] 26) := ⟨_, rfl⟩
  have hs0 : w0.heap.size = w.heap.size + 1 := by rw [hw0]; simp
  have hG : GAt w0 ⟨w.heap.size, 0, none⟩ g := by
    refine GAt.box (hv.below (w1 := w0) ?_) (b := w.heap.size) (cs := #[.int .i64 g.f0, .slice A1 g.f1.length c1, .slice A2 g.f2.length c2, .slice A3 g.f3.length c3]) ?_ rfl
    · rw [hw0]; exact below_alloc (Below.refl _ _) _
    · rw [hw0]; exact World.alloc_heap_new w _
  refine (callsIn_wide (n := 3)).1 ?_
  refine callsIn_of_wp_marks Tryd.func32 rfl trivial ?_ rfl
  simp only [Tryd.ntmps32, List.size_toArray, List.length_cons, List.length_nil, Nat.reduceAdd, Nat.reduceSub, Array.replicate_succ, Array.replicate_zero, List.push_toArray, List.append_toArray, List.nil_append, List.cons_append]
  gi_wp2_with fail
  refine ⟨trivial, ?_⟩
  refine (Free.plain.calls (all_calls _ _)).mono ?_
  rintro e w' ⟨rfl, rfl⟩
  gi_wp2_with fail
  refine range_all (w0.heap.size) w0 rfl g ⟨w.heap.size, 0, none⟩ hG hbk ?hw (w.heap.size + 2) ?hBt rfl rfl
    (fun x B => { tmps := #[Value.agg #[.int .i64 g.f0, .slice A1 g.f1.length c1, .slice A2 g.f2.length c2, .slice A3 g.f3.length c3], .pointer (some ⟨w.heap.size, 0, none⟩), .int .i64 0, .pointer (some ⟨w.heap.size + 1, 0, none⟩), .pointer (some ⟨B, 0, none⟩), .func (.func 48) #[] #[.pointer (some ⟨w.heap.size + 2, 0, none⟩)], x.enc, undef, undef, undef, undef, undef], defers := [] })
    ?hassign (fun pre W => W.heap[w.heap.size + 1]? = some (.cells #[.int .i64 (deepest pre)] 3 (0, 0))) (fun _ _ => False) ?hI (fun _ _ _ _ h _ _ => h) ?h0 ?hbody ?hdone (fun _ _ _ _ _ h => h.elim)
  case hw => rw [hw0]; exact ((Below.refl _ _).alloc (Nat.le_refl _) _).alloc (by simp) _
  case hBt => exact (blk_cell (heap_at (by simp) _) 0).trans rfl
  case hassign =>
    intro l x W K hK
    dsimp only [Spot.enc]
    gi_wp2
    exact hK
  case hI =>
    rintro s A B row hs hg hr
    exact (grownBy_keeps_cells hg (fun r e => (hr r e).2) hs rfl).trans hs
  case h0 =>
    show _ = some (Obj.cells #[.int .i64 (deepest [])] 3 (0, 0))
    exact heap_old (heap_at (by simp) _) _
  case hbody =>
    intro l pre x Bx W hm hGx hb hn hB hbx hi hlen
    have s1 : W.cell? ⟨Bx, 1, none⟩ = some (.int .i64 x.lvl) := (blk_cell hbx 1).trans rfl
    have m0 : W.cell? ⟨w.heap.size + 1, 0, none⟩ = some (.int .i64 (deepest pre)) := (blk_cell hi 0).trans rfl
    have m1 := blk_frozen hi 0
    have HI := Aside0.mk hi
    have HH := Aside0.mk (And.intro hn hs0)
    clear hi hGx hb hbx hm hlen hn hs0
    gi_wp2_with fail
    all_goals refine ⟨(Step.refl _ _ _).set HI.out (by decide) (by have := HH.out; omega) _, ?_⟩
    · have c : deepest pre < x.it.f1 := by assumption
      show _ = some (Obj.cells #[.int .i64 (deepest (pre ++ [x.it]))] 3 (0, 0))
      rw [deepest_snoc, if_pos c]
      dsimp only [Spot.it]
      exact by simpa using blk_set HI.out 0 _
    · have c : ¬ deepest pre < x.it.f1 := by first | assumption | exact Int.not_lt.2 (by assumption)
      show _ = some (Obj.cells #[.int .i64 (deepest (pre ++ [x.it]))] 3 (0, 0))
      rw [deepest_snoc, if_neg c]
      exact by simpa using blk_set HI.out 0 _
  case hdone =>
    rintro D W hD hi hb hK
    simp only [World.size_alloc] at hD
    have m0 : W.cell? ⟨w.heap.size + 1, 0, none⟩ = some (.int .i64 (depthOf g)) := (blk_cell hi 0).trans rfl
    dsimp only [behind]
    clear hi
    gi_wp2
    refine ⟨by simp, .inl ⟨_, _, rfl, run_takeDeferred hK, ?_⟩⟩
    refine ⟨_, results_tmp rfl _ _ _, rfl, ?_⟩
    have hb0 : Below w.heap.size w w0 := by rw [hw0]; exact below_alloc (Below.refl _ _) _
    exact (hb0.trans (hb.mono (by omega))).grown (grownBy_putObj' _ _ _) (by have := hb.size; omega) (fun k e => by cases e; omega)
set_option maxRecDepth 100000 in
set_option maxHeartbeats 4000000 in
theorem count_calls (v : Value) (g : Ge) (w : World) (hv : IsG w v g) (hbk : g.bulk ≤ 1073741824) :
    Calls Tryd.prog 23 #[v] w fun e w' => e = .returned (.tuple #[.int .i64 (nodes g 1 0).length, .int .i64 (ptsOf (nodes g 1 0))]) ∧ Below w.heap.size w w' := by
  have hv' := hv
  obtain ⟨A1, c1, A2, c2, A3, c3, rfl, _⟩ := hv'
  obtain ⟨w0, hw0⟩ : ∃ w0, w0 = w.alloc (.cells #[.int .i64 g.f0, .slice A1 g.f1.length c1, .slice A2 g.f2.length c2, .slice A3 g.f3.length c3] 26) := ⟨_, rfl⟩
  have hs0 : w0.heap.size = w.heap.size + 1 := by rw [hw0]; simp
  have hG : GAt w0 ⟨w.heap.size, 0, none⟩ g := by
    refine GAt.box (hv.below (w1 := w0) ?_) (b := w.heap.size) (cs := #[.int .i64 g.f0, .slice A1 g.f1.length c1, .slice A2 g.f2.length c2, .slice A3 g.f3.length c3]) ?_ rfl
    · rw [hw0]; exact below_alloc (Below.refl _ _) _
    · rw [hw0]; exact World.alloc_heap_new w _
  refine (callsIn_wide (n := 3)).1 ?_
  refine callsIn_of_wp_marks Tryd.func23 rfl trivial ?_ rfl
  simp only [Tryd.ntmps23, List.size_toArray, List.length_cons, List.length_nil, Nat.reduceAdd, Nat.reduceSub, Array.replicate_succ, Array.replicate_zero, List.push_toArray, List.append_toArray, List.nil_append, List.cons_append]
  gi_wp2_with fail
  refine ⟨trivial, ?_⟩
  refine (Free.plain.calls (all_calls _ _)).mono ?_
  rintro e w' ⟨rfl, rfl⟩
  gi_wp2_with fail
  refine range_all (w0.heap.size) w0 rfl g ⟨w.heap.size, 0, none⟩ hG hbk ?hw (w.heap.size + 3) ?hBt rfl rfl
    (fun x B => { tmps := #[Value.agg #[.int .i64 g.f0, .slice A1 g.f1.length c1, .slice A2 g.f2.length c2, .slice A3 g.f3.length c3], .pointer (some ⟨w.heap.size, 0, none⟩), .int .i64 0, .int .i64 0, .pointer (some ⟨w.heap.size + 1, 0, none⟩), .pointer (some ⟨w.heap.size + 2, 0, none⟩), .pointer (some ⟨B, 0, none⟩), .func (.func 48) #[] #[.pointer (some ⟨w.heap.size + 3, 0, none⟩)], x.enc, undef, undef, undef, undef, undef, undef, undef, undef, undef], defers := [] })
    ?hassign (fun pre W => W.heap[w.heap.size + 1]? = some (.cells #[.int .i64 pre.length] 3 (0, 0)) ∧ W.heap[w.heap.size + 2]? = some (.cells #[.int .i64 (ptsOf pre)] 3 (0, 0))) (fun _ _ => False) ?hI (fun _ _ _ _ h _ _ => h) ?h0 ?hbody ?hdone (fun _ _ _ _ _ h => h.elim)
  case hw => rw [hw0]; exact (((Below.refl _ _).alloc (Nat.le_refl _) _).alloc (by simp) _).alloc (by simp) _
  case hBt => exact (blk_cell (heap_at (by simp) _) 0).trans rfl
  case hassign =>
    intro l x W K hK
    dsimp only [Spot.enc]
    gi_wp2
    exact hK
  case hI =>
    rintro s A B row hs hg hr
    exact ⟨(grownBy_keeps_cells hg (fun r e => (hr r e).2) hs.1 rfl).trans hs.1, (grownBy_keeps_cells hg (fun r e => (hr r e).2) hs.2 rfl).trans hs.2⟩
  case h0 => exact ⟨heap_old (heap_old (heap_at (by simp) _) _) _, heap_old (heap_at (by simp) _) _⟩
  case hbody =>
    rintro l pre x Bx W hm hGx hb hn hB hbx ⟨hi1, hi2⟩ hlen
    have hmx : Tryd.prog.follows .mixedOrders = true := by kernel_rfl
    simp only [World.size_alloc] at hB
    have hne : Bx ≠ w.heap.size + 1 := by omega
    obtain ⟨W1, hW1⟩ : ∃ W1, W1 = (W.setCell ⟨w.heap.size + 1, 0, none⟩ (.int .i64 ((pre.length : Int) + 1))).drew := ⟨_, rfl⟩
    have b1' : W1.heap[w.heap.size + 1]? = some (.cells #[.int .i64 ((pre.length : Int) + 1)] 3 (0, 0)) := by rw [hW1]; exact blk_set1 hi1 _
    have b2' : W1.heap[w.heap.size + 2]? = some (.cells #[.int .i64 (ptsOf pre)] 3 (0, 0)) := by rw [hW1]; exact blk_far hi2 (p := ⟨w.heap.size + 1, 0, none⟩) (by simp) _
    have bx' : W1.heap[Bx]? = some (.cells #[.pointer (some x.ad), .int .i64 x.lvl, .int .i64 x.of_] 75 (0, 0)) := by rw [hW1]; exact blk_far hbx (p := ⟨w.heap.size + 1, 0, none⟩) hne _
    have st1 : Step w0.heap.size ((((w.alloc (.cells #[.int .i64 g.f0, .slice A1 g.f1.length c1, .slice A2 g.f2.length c2, .slice A3 g.f3.length c3] 26)).alloc (.cells #[.int .i64 0] 3)).alloc (.cells #[.int .i64 0] 3)).alloc (.cells #[.pointer (some ⟨w.heap.size, 0, none⟩)] 73)).heap.size W W1 := by
      rw [hW1]; exact ((Step.refl _ _ _).set hi1 (by decide) (by omega) _).drew
    have m0 : W.cell? ⟨w.heap.size + 1, 0, none⟩ = some (.int .i64 pre.length) := (blk_cell hi1 0).trans rfl
    have m1 := blk_frozen hi1 0
    have t0 : W1.cell? ⟨Bx, 0, none⟩ = some (.pointer (some x.ad)) := (blk_cell bx' 0).trans rfl
    have q0 : W1.cell? ⟨w.heap.size + 2, 0, none⟩ = some (.int .i64 (ptsOf pre)) := (blk_cell b2' 0).trans rfl
    have q1 := blk_frozen b2' 0
    have hl := nodes_len g 1 0
    have hp := ptsOf_le (pre ++ [x.it]) 1073741824 (fun y hy => by have := nodes_bulk (hm y hy); have := own_len y.f0; omega)
    have hp2 : (pre ++ [x.it]).length * 1073741824 ≤ 1073741824 * 1073741824 := Nat.mul_le_mul_right _ (by omega)
    rw [ptsOf_snoc] at hp
    rw [List.length_append, List.length_singleton] at hlen
    have hbx' := nodes_bulk (hm x.it (by simp))
    have b1 : pre.length + 1 ≤ 1073741824 := by omega
    have b2 : ptsOf pre + (own x.g).length ≤ 1152921504606846976 := by have : (own x.it.f0).length = (own x.g).length := rfl; omega
    have HI1 := Aside0.mk b1'
    have HI2 := Aside0.mk b2'
    have HO := Aside0.mk (own_calls x.g x.ad W1 (hGx.below (hb.trans st1.kp.below)) (by exact Nat.le_trans hbx' hbk))
    have ST := Aside0.mk st1
    have HH := Aside0.mk (And.intro hn hs0)
    have HW1 := Aside0.mk hW1
    clear hi1 hi2 hbx hp hp2 hl hbx' hGx hb hm hlen hn hs0 hB hne b1' b2' bx' st1 hW1
    gi_wp2_with fail
    refine Free.draws (.round l) hmx ?hq (by decide) ?_
    case hq => rintro ⟨_, _, h⟩; exact h
    rw [← HW1.out]
    refine any_still_tail 5 (by kernel_rfl) ?_
    simp only [List.take_succ_cons, List.take_zero, List.drop_succ_cons, List.drop_zero]
    repeat still_step
    still_call HO.out
    repeat still_step
    refine wpStill_nil ?_
    go_wp2_with fail
    refine ⟨ST.out.set HI2.out (by decide) (by have := HH.out; omega) _, ?_⟩
    show _ ∧ _
    rw [ptsOf_snoc, List.length_append, List.length_singleton]
    exact ⟨blk_far HI1.out (p := ⟨w.heap.size + 2, 0, none⟩) (by simp) _, blk_set1 HI2.out _⟩
  case hdone =>
    rintro D W hD ⟨hi1, hi2⟩ hb hK
    simp only [World.size_alloc] at hD
    have m0 : W.cell? ⟨w.heap.size + 1, 0, none⟩ = some (.int .i64 (nodes g 1 0).length) := (blk_cell hi1 0).trans rfl
    have q0 : W.cell? ⟨w.heap.size + 2, 0, none⟩ = some (.int .i64 (ptsOf (nodes g 1 0))) := (blk_cell hi2 0).trans rfl
    have hmx : Tryd.prog.follows .mixedOrders = true := by kernel_rfl
    dsimp only [behind]
    clear hi1 hi2
    gi_wp2_with fail
    refine Free.draws .plain hmx ?hq (by decide) ?_
    case hq => rintro ⟨_, _, h⟩; cases h.1
    refine any_still (by kernel_rfl) ?_
    repeat still_step
    refine wpStill_nil ?_
    gi_wp2
    refine ⟨by simp, .inl ⟨_, _, rfl, run_takeDeferred (w := W.drew) hK, ?_⟩⟩
    refine ⟨_, results_tmp2 rfl _ _ _, rfl, ?_⟩
    have hb0 : Below w.heap.size w w0 := by rw [hw0]; exact below_alloc (Below.refl _ _) _
    exact (hb0.trans (hb.drew.mono (by omega))).grown (grownBy_putObj' _ _ _) (by have := hb.size; show _ ≤ W.heap.size; omega) (fun k e => by cases e; omega)
end Go.Proofs.YtmcbniobbbjdjaaDoor.Tree
