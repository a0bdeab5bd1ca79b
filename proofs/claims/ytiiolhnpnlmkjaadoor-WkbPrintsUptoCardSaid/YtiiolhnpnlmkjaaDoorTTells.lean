/- Depth and Count by contracts. No conditions but those told. -/
import Derived.Test.YtiiolhnpnlmkjaaDoorTRange
namespace Go.Proofs.YtiiolhnpnlmkjaaDoor.Tree
open Go.RowKit Go.Proofs.YtiiolhnpnlmkjaaDoorW.PrintWords Go.Proofs.YtiiolhnpnlmkjaaDoorW.PrintLast Go.Proofs.YtiiolhnpnlmkjaaDoorW.PrintMore
set_option linter.unusedVariables false
set_option linter.unusedSimpArgs false
attribute [local go_sem] Oper.semAt_some max2_int max_two
theorem blk_set1 {w : World} {g : Nat} {t : TypeId} {v : Value} (h : w.heap[g]? = some (.cells #[v] t (0, 0))) (u : Value) : (w.setCell ⟨g, 0, none⟩ u).heap[g]? = some (.cells #[u] t (0, 0)) := by simpa using blk_set h 0 u
theorem heap_old {W : World} {k : Nat} {b : Obj} (h : W.heap[k]? = some b) (o : Obj) : (W.alloc o).heap[k]? = some b := (Below.heap_alloc W o k (blk_lt h)).trans h
theorem heap_at {W : World} {k : Nat} (h : W.heap.size = k) (o : Obj) : (W.alloc o).heap[k]? = some o := by subst h; exact World.alloc_heap_new _ _
/-- The greatest level. -/
def deepest (l : List It) : Int := l.foldl (fun m x => if m < x.f1 then x.f1 else m) 0
theorem deepest_snoc (l : List It) (x : It) : deepest (l ++ [x]) = if deepest l < x.f1 then x.f1 else deepest l := by unfold deepest; rw [List.foldl_append]; rfl
def depthOf (g : Ge) : Int := deepest (nodes g 1 0)
set_option maxRecDepth 100000 in
set_option maxHeartbeats 4000000 in
theorem depth_calls (v : Value) (g : Ge) (w : World) (hv : IsG w v g) (hbk : g.bulk ≤ 1073741824) :
    Calls Tryd.prog 38 #[v] w fun e w' => e = .returned (.int .i64 (depthOf g)) ∧ Below w.heap.size w w' := by
  have hv' := hv
  obtain ⟨A1, c1, A2, c2, A3, c3, rfl, _⟩ := hv'
  obtain ⟨w0, hw0⟩ : ∃ w0, w0 = w.alloc (.cells #[.int .i64 g.f0, .slice A1 g.f1.length c1, .slice A2 g.f2.length c2, .slice A3 g.f3.length c3] 28) := ⟨_, rfl⟩
  have hs0 : w0.heap.size = w.heap.size + 1 := by rw [hw0]; simp
  have hG : GAt w0 ⟨w.heap.size, 0, none⟩ g := by
    refine GAt.box (hv.below (w1 := w0) ?_) (b := w.heap.size) (cs := #[.int .i64 g.f0, .slice A1 g.f1.length c1, .slice A2 g.f2.length c2, .slice A3 g.f3.length c3]) ?_ rfl
    · rw [hw0]; exact below_alloc (Below.refl _ _) _
    · rw [hw0]; exact World.alloc_heap_new w _
  refine (callsIn_wide (n := 3)).1 ?_
  refine callsIn_of_wp_marks Tryd.func38 rfl trivial ?_ rfl
  simp only [Tryd.ntmps38, List.size_toArray, List.length_cons, List.length_nil, Nat.reduceAdd, Nat.reduceSub, Array.replicate_succ, Array.replicate_zero, List.push_toArray, List.append_toArray, List.nil_append, List.cons_append]
  gi_wp2_with fail
  refine ⟨trivial, ?_⟩
  refine (Free.plain.calls (all_calls _ _)).mono ?_
  rintro e w' ⟨rfl, rfl⟩
  gi_wp2_with fail
  refine range_all (w0.heap.size) w0 rfl g ⟨w.heap.size, 0, none⟩ hG hbk ?hw (w.heap.size + 2) ?hBt rfl rfl
    (fun x B => { tmps := #[Value.agg #[.int .i64 g.f0, .slice A1 g.f1.length c1, .slice A2 g.f2.length c2, .slice A3 g.f3.length c3], .pointer (some ⟨w.heap.size, 0, none⟩), .int .i64 0, .pointer (some ⟨w.heap.size + 1, 0, none⟩), .pointer (some ⟨B, 0, none⟩), .func (.func 81) #[] #[.pointer (some ⟨w.heap.size + 2, 0, none⟩)], x.enc, undef, undef, undef, undef, undef], defers := [] })
    ?hassign (fun pre W => W.heap[w.heap.size + 1]? = some (.cells #[.int .i64 (deepest pre)] 3 (0, 0))) (fun _ _ => False) ?hI (fun _ _ _ _ h _ _ => h) ?h0 ?hbody ?hdone (fun _ _ _ _ _ h => h.elim)
  case hw => rw [hw0]; exact ((Below.refl _ _).alloc (Nat.le_refl _) _).alloc (by simp) _
  case hBt => exact (blk_cell (heap_at (by simp) _) 0).trans rfl
  case hassign =>
    intro l x W K hK
    dsimp only [Spot.enc]
    gi_wp2
    exact hK
  case hI =>
    rintro s A B row hs hg hr
    exact (grownBy_keeps_cells hg (fun r e => (hr r e).2) hs rfl).trans hs
  case h0 =>
    show _ = some (Obj.cells #[.int .i64 (deepest [])] 3 (0, 0))
    exact heap_old (heap_at (by simp) _) _
  case hbody =>
    intro l pre x Bx W hm hGx hb hn hB hbx hi hlen
    have s1 : W.cell? ⟨Bx, 1, none⟩ = some (.int .i64 x.lvl) := (blk_cell hbx 1).trans rfl
    have m0 : W.cell? ⟨w.heap.size + 1, 0, none⟩ = some (.int .i64 (deepest pre)) := (blk_cell hi 0).trans rfl
    have m1 := blk_frozen hi 0
    have HI := Aside0.mk hi
    have HH := Aside0.mk (And.intro hn hs0)
    clear hi hGx hb hbx hm hlen hn hs0
    gi_wp2_with fail
    all_goals refine ⟨(Step.refl _ _ _).set HI.out (by decide) (by have := HH.out; omega) _, ?_⟩
    · have c : deepest pre < x.it.f1 := by assumption
      show _ = some (Obj.cells #[.int .i64 (deepest (pre ++ [x.it]))] 3 (0, 0))
      rw [deepest_snoc, if_pos c]
      dsimp only [Spot.it]
      exact by simpa using blk_set HI.out 0 _
    · have c : ¬ deepest pre < x.it.f1 := by first | assumption | exact Int.not_lt.2 (by assumption)
      show _ = some (Obj.cells #[.int .i64 (deepest (pre ++ [x.it]))] 3 (0, 0))
      rw [deepest_snoc, if_neg c]
      exact by simpa using blk_set HI.out 0 _
  case hdone =>
    rintro D W hD hi hb hK
    simp only [World.size_alloc] at hD
    have m0 : W.cell? ⟨w.heap.size + 1, 0, none⟩ = some (.int .i64 (depthOf g)) := (blk_cell hi 0).trans rfl
    dsimp only [behind]
    clear hi
    gi_wp2
    refine ⟨by simp, .inl ⟨_, _, rfl, run_takeDeferred hK, ?_⟩⟩
    refine ⟨_, results_tmp rfl _ _ _, rfl, ?_⟩
    have hb0 : Below w.heap.size w w0 := by rw [hw0]; exact below_alloc (Below.refl _ _) _
    exact (hb0.trans (hb.mono (by omega))).grown (grownBy_putObj' _ _ _) (by have := hb.size; omega) (fun k e => by cases e; omega)
end Go.Proofs.YtiiolhnpnlmkjaaDoor.Tree
