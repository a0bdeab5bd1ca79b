/- Copy by contract: each list of the answer lies apart. No conditions but those told. -/
import Derived.Test.YtmcbniobbbjdjaaDoorTRef
import Derived.Test.YtmcbniobbbjdjaaDoorTRegion
import Derived.RangeFuncRecord
namespace Go.Proofs.YtmcbniobbbjdjaaDoor.Tree
open Go.RowKit Go.Proofs.YtmcbniobbbjdjaaDoorW.PrintWords Go.Proofs.YtmcbniobbbjdjaaDoorW.PrintLast Go.Proofs.YtmcbniobbbjdjaaDoorW.PrintMore
set_option linter.unusedVariables false
set_option linter.unusedSimpArgs false
theorem infoPts : (Tryd.prog.info? 22).map (fun i => (i.zero, i.size, i.bytes)) = some (some (.slice none 0 0), 1, 24) := by kernel_rfl
theorem infoGe : (Tryd.prog.info? 26).map (fun i => (i.zero, i.size, i.bytes)) = some (some (.agg #[.int .i64 0, .slice none 0 0, .slice none 0 0, .slice none 0 0]), 4, 80) := by kernel_rfl
set_option maxRecDepth 100000 in
set_option maxHeartbeats 4000000 in
theorem copied_calls (A : Option Addr) (c : Nat) (l : List Pt) (w : World) (hC : Kd.C kPt w A l.length l) (hl : l.length ≤ 1073741824) :
    Calls Tryd.prog 38 #[.slice A l.length c] w fun e w' => ∃ v, e = .returned v ∧ Kd.R kPt 65 w' w.heap.size (fun _ => True) v l ∧ Below w.heap.size w w' := by
  have H1 := Aside0.mk hC
  clear hC
  have HB := Aside0.mk (Below.refl w.heap.size w)
  have HO := Aside0.mk (Kd.R_nil kPt 65 w w.heap.size (fun _ => True))
  go_enter Tryd.func38, Tryd.ntmps38
  go_wp2_with (first
    | ((with_reducible refine gate_builtin (b := .append) (xs := #[.const (.slice none 0 0), .tmp 3]) rfl ?_); at_builtin; refine Kd.R_append_rows kPt (w0 := w) w.heap.size rfl (.const (.slice none 0 0)) (.tmp 3) 22 65 (.agg #[.int .u64 0, .int .u64 0]) 16 rfl Tryd.underlying22 infoPt rfl (Nat.succ_pos _) (by omega) (.slice none 0 0) [] l _ _ _ (fun _ => True) (fun _ => False) rfl rfl ?aO ?aR (fun _ _ h => h) (fun _ h => h.elim) ?aF ?aB ?aS ?aL ?_; (case aR => exact H1.out); (case aB => exact (by repeat (first | (with_reducible first | exact HB.out | apply below_alloc | apply pw_below_drewN | apply below_drew1) | exact HB.out))); (case aF => exact (fun _ _ => trivial)); (case aO => exact HO.out); (case aS => exact (below_size (by repeat (first | (with_reducible first | exact HB.out | apply below_alloc | apply pw_below_drewN | apply below_drew1) | exact HB.out)))); (case aL => show (0 + l.length) * 16 ≤ _; omega); intro v1_ w1_ ho_ hb_ hg_ hat_; clear HB HO; have HB := Aside0.mk hb_; have HO := Aside0.mk ho_; clear hb_ ho_ hg_ hat_))
  go_ret
  exact ⟨_, rfl, by simpa using HO.out, HB.out⟩
/-- What Copy answers: a tree each of whose lists lies in new memory of its own. -/
def CopyOf (n : Nat) (w w' : World) (v : Value) (g : Ge) : Prop := ∃ cs, v = .agg cs.toArray ∧ (kSp n).M w' w.heap.size (fun k => w.heap.size ≤ k) g cs
theorem rd_L2_at' (l : List (List Pt)) (k : Nat) (h : k < l.length) : rd_L2 l (k : Int) = l[k] := rd_L2_at l k h
theorem results_geom {fn : Func} {a : Tmp} (h : fn.results = #[.cell a 26]) (tmps : Array Value) (w : World) {b : Nat} {q0 q1 q2 q3 : Value} (hp : tmps.getD a undef = .pointer (some ⟨b, 0, none⟩)) (hb : w.heap[b]? = some (.cells #[q0, q1, q2, q3] 26 (0, 0))) : (results fn tmps).run Tryd.prog w = .ok (.agg #[q0, q1, q2, q3]) w := by
  rw [Array.getD_eq_getD_getElem?] at hp
  have hu := Tryd.underlying26
  have c0 : w.cell? ⟨b, 0, none⟩ = some q0 := (blk_cell hb 0).trans rfl
  have c1 : w.cell? ⟨b, 1, none⟩ = some q1 := (blk_cell hb 1).trans rfl
  have c2 : w.cell? ⟨b, 2, none⟩ = some q2 := (blk_cell hb 2).trans rfl
  have c3 : w.cell? ⟨b, 3, none⟩ = some q3 := (blk_cell hb 3).trans rfl
  simp [results, h, hp, go_sem, asAddr, c0, c1, c2, c3]
/-- The boxes of a walk of Copy: the tree's, the result's, the answer's. -/
structure CpW (w : World) (gb gr go_ : Nat) (gc : Array Value) (k : Int) (v1 v2 v3 : Value) (W : World) : Prop where
  b : W.heap[gb]? = some (.cells gc 26 (0, 0))
  r : W.heap[gr]? = some (.cells #[.int .i64 0, .slice none 0 0, .slice none 0 0, .slice none 0 0] 26 (0, 0))
  o : W.heap[go_]? = some (.cells #[.int .i64 k, v1, v2, v3] 26 (0, 0))
  B : Below w.heap.size w W
section
variable {w W W' : World} {gb gr go_ : Nat} {gc : Array Value} {k : Int} {v1 v2 v3 : Value}
theorem CpW.below (h : CpW w gb gr go_ gc k v1 v2 v3 W) (hb : Below W.heap.size W W') : CpW w gb gr go_ gc k v1 v2 v3 W' := ⟨blk_below h.b hb, blk_below h.r hb, blk_below h.o hb, below_step h.B hb⟩
theorem CpW.grown (h : CpW w gb gr go_ gc k v1 v2 v3 W) {row : Option Nat} (hg : W.grownBy W' row) (hb : Below w.heap.size w W') (h1 : some gb ≠ row) (h2 : some gr ≠ row) (h3 : some go_ ≠ row) : CpW w gb gr go_ gc k v1 v2 v3 W' := ⟨blk_grown h.b hg h1, blk_grown h.r hg h2, blk_grown h.o hg h3, hb⟩
theorem CpW.set2 (h : CpW w gb gr go_ gc k v1 v2 v3 W) (hb : gb ≠ go_) (hr : gr ≠ go_) (ho : w.heap.size ≤ go_) (u : Value) : CpW w gb gr go_ gc k v1 u v3 (W.setCell ⟨go_, 2, none⟩ u) :=
  ⟨blk_far h.b (p := ⟨go_, 2, none⟩) hb _, blk_far h.r (p := ⟨go_, 2, none⟩) hr _, by simpa using blk_set h.o 2 u, h.B.setCell (p := ⟨go_, 2, none⟩) ho u⟩
theorem CpW.set3 (h : CpW w gb gr go_ gc k v1 v2 v3 W) (hb : gb ≠ go_) (hr : gr ≠ go_) (ho : w.heap.size ≤ go_) (u : Value) : CpW w gb gr go_ gc k v1 v2 u (W.setCell ⟨go_, 3, none⟩ u) :=
  ⟨blk_far h.b (p := ⟨go_, 3, none⟩) hb _, blk_far h.r (p := ⟨go_, 3, none⟩) hr _, by simpa using blk_set h.o 3 u, h.B.setCell (p := ⟨go_, 3, none⟩) ho u⟩
end
set_option maxRecDepth 100000 in
set_option maxHeartbeats 4000000 in
theorem copy_calls (n : Nat) : ∀ (v : Value) (g : Ge) (w : World), IsG w v g → g.bulk ≤ n → n ≤ 1073741824 →
    Calls Tryd.prog 47 #[v] w fun e w' => ∃ u, e = .returned u ∧ CopyOf n w w' u g ∧ Below w.heap.size w w' := by
  induction n with
  | zero => intro v g w _ h; have := g.bulk_eq; omega
  | succ n ih =>
  intro v g w hv hbk hn
  obtain ⟨A1, c1, A2, c2, A3, c3, rfl, l1, h1, l2, h2, l3, h3⟩ := hv
  have hbq := g.bulk_eq
  have H1 := Aside0.mk h1
  have H2 := Aside0.mk h2
  have H3 := Aside0.mk h3
  have hu := Tryd.underlying26
  have U := Aside0.mk (upTo_le g.f2)
  have IH := Aside0.mk ih
  clear h1 h2 h3 ih
  have HB := Aside0.mk (Below.refl w.heap.size w)
  go_enter Tryd.func47, Tryd.ntmps47
  go_wp2_with (first
    | ((with_reducible refine gate_dst (N := 1) rfl ?_); refine box_event ?hg (N := 1) ?hd (cs := #[.int .i64 g.f0, .slice A1 g.f1.length c1, .slice A2 g.f2.length c2, .slice A3 g.f3.length c3]) (t := 26) ?hr ?_; (case hd => rfl); (case hg => rfl); (case hr => first | (go_simp; done) | (go_simp; rfl)); intro gb_ hgb_ wb_ hbox_ hbb_; have GE := Aside0.mk (show w.heap.size ≤ gb_ from by rw [hgb_]; exact below_size (by repeat (first | (with_reducible first | exact HB.out | apply below_alloc | apply pw_below_drewN | apply below_drew1) | exact HB.out))); have n_ := Aside0.mk (below_step (by repeat (first | (with_reducible first | exact HB.out | apply below_alloc | apply pw_below_drewN | apply below_drew1) | exact HB.out)) hbb_); clear HB; have HB := n_; have BK := Aside0.mk hbox_; (have z0_ : wb_.cell? ⟨gb_, 0, none⟩ = some (.int .i64 g.f0) := (blk_cell BK.out 0).trans rfl; have z1_ : wb_.cell? ⟨gb_, 1, none⟩ = some (.slice A1 g.f1.length c1) := (blk_cell BK.out 1).trans rfl; have z2_ : wb_.cell? ⟨gb_, 2, none⟩ = some (.slice A2 g.f2.length c2) := (blk_cell BK.out 2).trans rfl; have z3_ : wb_.cell? ⟨gb_, 3, none⟩ = some (.slice A3 g.f3.length c3) := (blk_cell BK.out 3).trans rfl); clear n_ hbox_ hbb_ hgb_))
  obtain ⟨gr, hgr⟩ : ∃ gr, gr = wb_.heap.size := ⟨_, rfl⟩
  obtain ⟨W0, hW0⟩ : ∃ W0, W0 = wb_.alloc (.cells #[.int .i64 0, .slice none 0 0, .slice none 0 0, .slice none 0 0] 26) := ⟨_, rfl⟩
  rw [← hW0, ← hgr]
  have BKr : W0.heap[gr]? = some (.cells #[.int .i64 0, .slice none 0 0, .slice none 0 0, .slice none 0 0] 26 (0, 0)) := by rw [hW0, hgr]; exact World.alloc_heap_new _ _
  have BKg : W0.heap[gb_]? = some (.cells #[.int .i64 g.f0, .slice A1 g.f1.length c1, .slice A2 g.f2.length c2, .slice A3 g.f3.length c3] 26 (0, 0)) := by rw [hW0]; exact blk_alloc BK.out _
  have hb0 : Below w.heap.size w W0 := by rw [hW0]; exact below_alloc HB.out _
  have hge : w.heap.size ≤ gb_ ∧ gb_ < gr ∧ gr < W0.heap.size := by
    have h1 := GE.out
    have h2 := blk_lt BK.out
    rw [hW0]; simp; omega
  have hmx : Tryd.prog.follows .mixedOrders = true := by kernel_rfl
  clear hW0 hgr HB BK GE z0_ z1_ z2_ z3_
  refine start_ (n := 8) (S := fun w' => w'.cell? ⟨gb_, 0, none⟩ = some (.int .i64 g.f0) ∧ w'.cell? ⟨gb_, 1, none⟩ = some (.slice A1 g.f1.length c1) ∧ True) (ds := [7]) #[false, false, false, false, false, false, false, false] hmx rfl rfl ⟨(blk_cell (w := W0.drew) BKg 0).trans rfl, (blk_cell (w := W0.drew) BKg 1).trans rfl, trivial⟩ (fun hHeld => ?_)
  (refine pure_ (i := 0) (N := some 8) (v := ?_) (a' := ?_) #[true, false, false, false, false, false, false, false] rfl rfl (by kernel_rfl) (fun _ _ _ h => h) (Or.inl ⟨by rfl, ?_⟩) ?_ ?_; rotate_left; (focus (intro w'_; go_simp; with_reducible rfl)); rotate_left; (focus (simp only [Act.put, List.setIfInBounds_toArray, List.set_cons_zero, List.set_cons_succ]; rfl)))
  (refine pure_ (i := 2) (N := some 10) (v := ?_) (a' := ?_) #[true, false, true, false, false, false, false, false] rfl rfl (by kernel_rfl) (fun _ _ _ h => h) (Or.inl ⟨by rfl, ?_⟩) ?_ ?_; rotate_left; (focus (intro w'_; go_simp; with_reducible rfl)); rotate_left; (focus (simp only [Act.put, List.setIfInBounds_toArray, List.set_cons_zero, List.set_cons_succ]; rfl)))
  (refine take_ (i := 1) (N := some 9) (v := ?_) (a' := ?_) #[true, true, true, false, false, false, false, false] rfl rfl (by kernel_rfl) (fun _ _ _ h => h) (Or.inl ⟨by rfl, ?_⟩) hHeld ?_ ?_; rotate_left; (focus (intro w'_ hs_; (repeat obtain ⟨_, hs_⟩ := hs_); go_simp; with_reducible rfl)); rotate_left; (focus (simp only [Act.put, List.setIfInBounds_toArray, List.set_cons_zero, List.set_cons_succ]; rfl)))
  (refine take_ (i := 3) (N := some 11) (v := ?_) (a' := ?_) #[true, true, true, true, false, false, false, false] rfl rfl (by kernel_rfl) (fun _ _ _ h => h) (Or.inl ⟨by rfl, ?_⟩) hHeld ?_ ?_; rotate_left; (focus (intro w'_ hs_; (repeat obtain ⟨_, hs_⟩ := hs_); go_simp; with_reducible rfl)); rotate_left; (focus (simp only [Act.put, List.setIfInBounds_toArray, List.set_cons_zero, List.set_cons_succ]; rfl)))
  refine join_ (σ := Nat × Option Addr × Nat) 1 #[true, true, true, true, true, true, true, false] (fun s => [(12, .slice s.2.1 g.f1.length s.2.2), (13, .agg #[.int .i64 g.f0, .slice s.2.1 g.f1.length s.2.2, .slice none 0 0, .slice none 0 0]), (3, .pointer (some ⟨s.1, 0, none⟩))]) (fun s w' => w'.heap[gb_]? = some (.cells #[.int .i64 g.f0, .slice A1 g.f1.length c1, .slice A2 g.f2.length c2, .slice A3 g.f3.length c3] 26 (0, 0)) ∧ w'.heap[gr]? = some (.cells #[.int .i64 0, .slice none 0 0, .slice none 0 0, .slice none 0 0] 26 (0, 0)) ∧ w'.heap[s.1]? = some (.cells #[.int .i64 0, .slice none 0 0, .slice none 0 0, .slice none 0 0] 26 (0, 0)) ∧ gr < s.1 ∧ Kd.R kPt 65 w' w.heap.size (fun _ => True) (.slice s.2.1 g.f1.length s.2.2) g.f1 ∧ Below w.heap.size w w') ?hcont ?hways
  case hways =>
    intro hcont
    refine two_ (i := 4) (j := 6) #[true, true, true, true, true, false, false, false] #[true, true, true, true, false, false, true, false] rfl rfl rfl rfl (by kernel_rfl) (by decide) (by decide) (fun K hK => ?_) (fun K hK => ?_)
    · refine goes_ Tryd.func38 (by kernel_rfl) rfl #[.slice A1 g.f1.length c1] (by rfl) rfl rfl (by (try simp only [List.map_toArray, List.map_cons, List.map_nil]); first | done | rfl) ?_
      refine (copied_calls A1 c1 g.f1 W0.drew (Kd.C_below H1.out (below_drew hb0)) (by omega)).mono ?_
      rintro e w1 ⟨v1, rfl, ho, hb1⟩
      obtain ⟨A4, c4, e4⟩ := Kd.R_slice ho
      subst e4
      have k1 : w1.heap[gb_]? = some (.cells #[.int .i64 g.f0, .slice A1 g.f1.length c1, .slice A2 g.f2.length c2, .slice A3 g.f3.length c3] 26 (0, 0)) := (hb1.block gb_ (blk_lt (w := W0.drew) BKg)).trans BKg
      have k2 : w1.heap[gr]? = some (.cells #[.int .i64 0, .slice none 0 0, .slice none 0 0, .slice none 0 0] 26 (0, 0)) := (hb1.block gr (blk_lt (w := W0.drew) BKr)).trans BKr
      have hsz : W0.heap.size ≤ w1.heap.size := hb1.size
      have hb2 : Below w.heap.size w w1 := below_step (below_drew hb0) hb1
      refine ⟨_, rfl, hK.out _ _ ⟨(blk_cell k1 0).trans rfl, (blk_cell k1 1).trans rfl, trivial⟩ (fun hHeld2 => ?_)⟩
      clear hK K
      (refine norm_ (a' := ?_) ?_ ?_; rotate_left; focus (show Act.put _ (some 12) _ = _; simp only [Act.put, List.setIfInBounds_toArray, List.set_cons_zero, List.set_cons_succ]; rfl))
      (refine pure_ (i := 5) (N := some 13) (v := ?_) (a' := ?_) #[true, true, true, true, true, true, false, false] rfl rfl (by kernel_rfl) (fun _ _ _ h => h) (Or.inl ⟨by rfl, ?_⟩) ?_ ?_; rotate_left; (focus (intro w'_; go_simp; with_reducible rfl)); rotate_left; (focus (simp only [Act.put, List.setIfInBounds_toArray, List.set_cons_zero, List.set_cons_succ]; rfl)))
      refine one_ (i := 6) (N := some 3) #[true, true, true, true, true, true, true, false] rfl rfl (by kernel_rfl) (by decide) (fun K hK => ?_)
      (refine value_ (w1 := ?_) (v := ?_) (by rfl) rfl ?_ ?_; rotate_left 2; (focus (go_simp; constructor <;> rfl)))
      refine hK.out _ _ ⟨(blk_cell (blk_alloc k1 _) 0).trans rfl, (blk_cell (blk_alloc k1 _) 1).trans rfl, trivial⟩ (fun hHeld2 => ?_)
      (have hh_ := (hcont (w1.heap.size, A4, c4) _ ⟨blk_alloc k1 _, blk_alloc k2 _, World.alloc_heap_new _ _, by show gr < w1.heap.size; omega, Kd.R_alloc (Kd.R_lower ho (by show w.heap.size ≤ W0.heap.size; omega)) _, below_alloc hb2 _⟩); simp only [putAll, Act.put, List.setIfInBounds_toArray, List.set_cons_zero, List.set_cons_succ] at hh_ ⊢; exact hh_)
    · (refine value_ (w1 := ?_) (v := ?_) (by rfl) rfl ?_ ?_; rotate_left 2; (focus (go_simp; constructor <;> rfl)))
      have k1 : (W0.drew.alloc (.cells #[.int .i64 0, .slice none 0 0, .slice none 0 0, .slice none 0 0] 26)).heap[gb_]? = some (.cells #[.int .i64 g.f0, .slice A1 g.f1.length c1, .slice A2 g.f2.length c2, .slice A3 g.f3.length c3] 26 (0, 0)) := blk_alloc (w := W0.drew) BKg _
      have k2 : (W0.drew.alloc (.cells #[.int .i64 0, .slice none 0 0, .slice none 0 0, .slice none 0 0] 26)).heap[gr]? = some (.cells #[.int .i64 0, .slice none 0 0, .slice none 0 0, .slice none 0 0] 26 (0, 0)) := blk_alloc (w := W0.drew) BKr _
      have k3 : (W0.drew.alloc (.cells #[.int .i64 0, .slice none 0 0, .slice none 0 0, .slice none 0 0] 26)).heap[W0.heap.size]? = some (.cells #[.int .i64 0, .slice none 0 0, .slice none 0 0, .slice none 0 0] 26 (0, 0)) := World.alloc_heap_new W0.drew _
      refine hK.out _ _ ⟨(blk_cell k1 0).trans rfl, (blk_cell k1 1).trans rfl, trivial⟩ (fun hHeld2 => ?_)
      clear hK K
      (refine norm_ (a' := ?_) ?_ ?_; rotate_left; focus (show Act.put _ (some 3) _ = _; simp only [Act.put, List.setIfInBounds_toArray, List.set_cons_zero, List.set_cons_succ]; rfl))
      refine one_ (i := 4) (N := some 12) #[true, true, true, true, true, false, true, false] rfl rfl (by kernel_rfl) (by decide) (fun K hK => ?_)
      refine goes_ Tryd.func38 (by kernel_rfl) rfl #[.slice A1 g.f1.length c1] (by rfl) rfl rfl (by (try simp only [List.map_toArray, List.map_cons, List.map_nil]); first | done | rfl) ?_
      have hba : Below w.heap.size w (W0.drew.alloc (.cells #[.int .i64 0, .slice none 0 0, .slice none 0 0, .slice none 0 0] 26)) := below_alloc (below_drew hb0) _
      refine (copied_calls A1 c1 g.f1 _ (Kd.C_below H1.out hba) (by omega)).mono ?_
      rintro e w1 ⟨v1, rfl, ho, hb1⟩
      obtain ⟨A4, c4, e4⟩ := Kd.R_slice ho
      subst e4
      have q1 := (hb1.block _ (blk_lt k1)).trans k1
      have q2 := (hb1.block _ (blk_lt k2)).trans k2
      have q3 := (hb1.block _ (blk_lt k3)).trans k3
      refine ⟨_, rfl, hK.out _ _ ⟨(blk_cell q1 0).trans rfl, (blk_cell q1 1).trans rfl, trivial⟩ (fun hHeld2 => ?_)⟩
      clear hK K
      (refine norm_ (a' := ?_) ?_ ?_; rotate_left; focus (show Act.put _ (some 12) _ = _; simp only [Act.put, List.setIfInBounds_toArray, List.set_cons_zero, List.set_cons_succ]; rfl))
      (refine pure_ (i := 5) (N := some 13) (v := ?_) (a' := ?_) #[true, true, true, true, true, true, true, false] rfl rfl (by kernel_rfl) (fun _ _ _ h => h) (Or.inl ⟨by rfl, ?_⟩) ?_ ?_; rotate_left; (focus (intro w'_; go_simp; with_reducible rfl)); rotate_left; (focus (simp only [Act.put, List.setIfInBounds_toArray, List.set_cons_zero, List.set_cons_succ]; rfl)))
      (have hh_ := (hcont (W0.heap.size, A4, c4) _ ⟨q1, q2, q3, hge.2.2, Kd.R_lower ho (by simp; show w.heap.size ≤ W0.heap.size + 1; omega), below_step hba hb1⟩); simp only [putAll, Act.put, List.setIfInBounds_toArray, List.set_cons_zero, List.set_cons_succ] at hh_ ⊢; exact hh_)
  case hcont =>
    rintro ⟨go_, A4, c4⟩ w' ⟨b1, b2, b3, hlt, hr1, hb⟩
    refine norm_ (a' := ?_) ?_ ?_
    rotate_left
    · simp only [putAll, Act.put, List.setIfInBounds_toArray, List.set_cons_zero, List.set_cons_succ]; rfl
    refine last_ (i := 7) (N := none) #[true, true, true, true, true, true, true, true] rfl rfl (by kernel_rfl) (by decide) (fun K hK => ?_)
    have hs0 : w'.cell? ⟨go_, 0, none⟩ = some (.int .i64 0) := (blk_cell b3 0).trans rfl
    have hs1 : w'.cell? ⟨go_, 1, none⟩ = some (.slice none 0 0) := (blk_cell b3 1).trans rfl
    have hs2 : w'.cell? ⟨go_, 2, none⟩ = some (.slice none 0 0) := (blk_cell b3 2).trans rfl
    have hs3 : w'.cell? ⟨go_, 3, none⟩ = some (.slice none 0 0) := (blk_cell b3 3).trans rfl
    have hf0 := blk_frozen b3 0
    have hf1 := blk_frozen b3 1
    have hf2 := blk_frozen b3 2
    have hf3 := blk_frozen b3 3
    refine skip_ (w1 := ?_) (by rfl) rfl ?_ ?_
    rotate_left
    · go_simp
      rfl
    refine hK.out _ _ ?_
    clear hK K
    refine done_ (by kernel_rfl) ?_
    obtain ⟨W1, hW1⟩ : ∃ W1, W1 = (((w'.setCell ⟨go_, 0, none⟩ (.int .i64 g.f0)).setCell ⟨go_, 1, none⟩ (.slice A4 g.f1.length c4)).setCell ⟨go_, 2, none⟩ (.slice none 0 0)).setCell ⟨go_, 3, none⟩ (.slice none 0 0) := ⟨_, rfl⟩
    rw [← hW1]
    have hlt' : gr < go_ := hlt
    have hgo : go_ < W1.heap.size := by rw [hW1]; simpa using blk_lt b3
    have cp1 : CpW w gb_ gr go_ #[.int .i64 g.f0, .slice A1 g.f1.length c1, .slice A2 g.f2.length c2, .slice A3 g.f3.length c3] g.f0 (.slice A4 g.f1.length c4) (.slice none 0 0) (.slice none 0 0) W1 := by
      rw [hW1]
      refine ⟨?_, ?_, ?_, ?_⟩
      · exact blk_far (p := ⟨go_, 3, none⟩) (blk_far (p := ⟨go_, 2, none⟩) (blk_far (p := ⟨go_, 1, none⟩) (blk_far (p := ⟨go_, 0, none⟩) b1 (by show gb_ ≠ go_; omega) _) (by show gb_ ≠ go_; omega) _) (by show gb_ ≠ go_; omega) _) (by show gb_ ≠ go_; omega) _
      · exact blk_far (p := ⟨go_, 3, none⟩) (blk_far (p := ⟨go_, 2, none⟩) (blk_far (p := ⟨go_, 1, none⟩) (blk_far (p := ⟨go_, 0, none⟩) b2 (by show gr ≠ go_; omega) _) (by show gr ≠ go_; omega) _) (by show gr ≠ go_; omega) _) (by show gr ≠ go_; omega) _
      · simpa using blk_set (blk_set (blk_set (blk_set b3 0 (.int .i64 g.f0)) 1 (.slice A4 g.f1.length c4)) 2 (.slice none 0 0)) 3 (.slice none 0 0)
      · have hq : w.heap.size ≤ go_ := by omega
        exact (((hb.setCell (p := ⟨go_, 0, none⟩) hq _).setCell (p := ⟨go_, 1, none⟩) hq _).setCell (p := ⟨go_, 2, none⟩) hq _).setCell (p := ⟨go_, 3, none⟩) hq _
    have hr1' : Kd.R kPt 65 W1 w.heap.size (fun k => k < W1.heap.size ∧ k ≠ go_) (.slice A4 g.f1.length c4) g.f1 := by
      have h1 : Kd.R kPt 65 W1 w.heap.size (fun k => True ∧ k ≠ go_) (.slice A4 g.f1.length c4) g.f1 := by
        rw [hW1]
        exact Kd.R_far (p := ⟨go_, 3, none⟩) (Kd.R_far (p := ⟨go_, 2, none⟩) (Kd.R_far (p := ⟨go_, 1, none⟩) (Kd.R_far (p := ⟨go_, 0, none⟩) (Kd.R_types hr1 b3 (by decide)) (fun _ h => h.2) _) (fun _ h => h.2) _) (fun _ h => h.2) _) (fun _ h => h.2) _
      exact Kd.R_mono (Kd.R_bound h1) (fun k h => ⟨h.2.2.1, h.1.2⟩)
    have hs1 : Kd.S (Kd.slice 65 kPt) 22 W1 w.heap.size (fun k => W1.heap.size ≤ k) (.slice none 0 0) [] := Kd.S_nil _ _ _ _ _
    have CP := Aside0.mk cp1
    have HR := Aside0.mk hr1'
    have HS := Aside0.mk hs1
    clear b1 b2 b3 hb hW1 cp1 hr1' hs1 hs0 hs2 hs3 hf0 hf1 hf2 hf3 hr1 hHeld hlt
    have z2_ : W1.cell? ⟨gb_, 2, none⟩ = some (.slice A2 g.f2.length c2) := (blk_cell CP.out.b 2).trans rfl
    go_wp2_with fail
    go_loopg [17] g.f2.length (fun kq i wr => ∃ (j : Nat) (v2 : Value), j + kq = g.f2.length ∧ i = .int .i64 (j : Int) ∧ W1.heap.size ≤ wr.heap.size ∧ Aside0 (CpW w gb_ gr go_ #[.int .i64 g.f0, .slice A1 g.f1.length c1, .slice A2 g.f2.length c2, .slice A3 g.f3.length c3] g.f0 (.slice A4 g.f1.length c4) v2 (.slice none 0 0) wr) ∧ Aside0 (Kd.R kPt 65 wr w.heap.size (fun k => k < W1.heap.size ∧ k ≠ go_) (.slice A4 g.f1.length c4) g.f1) ∧ Aside0 (Kd.S (Kd.slice 65 kPt) 22 wr w.heap.size (fun k => W1.heap.size ≤ k) v2 (g.f2.take j)))
    case atStart => exact ⟨0, _, by omega, rfl, Nat.le_refl _, CP, HR, HS⟩
    case round =>
      clear CP HR HS
      obtain ⟨j, v2, hj, rfl, hsz, CP, HR, HS⟩ := hrel
      cases gk with
      | zero =>
        have hlt : ¬ ((j : Int) < (g.f2.length : Int)) := by omega
        obtain rfl : j = g.f2.length := by omega
        rw [List.take_length] at HS
        obtain ⟨W2, hW2⟩ : ∃ W2, W2 = wr := ⟨_, rfl⟩
        subst hW2
        have HS2 := Aside0.mk (show Kd.S (Kd.slice 65 kPt) 22 W2 w.heap.size (fun k => W1.heap.size ≤ k ∧ k < W2.heap.size) v2 g.f2 from Kd.S_mono (Kd.S_bound HS.out) (fun k h => ⟨h.1, h.2.2.1⟩))
        have hs3 : Kd.S (kSp n) 26 W2 w.heap.size (fun k => W2.heap.size ≤ k) (.slice none 0 0) [] := Kd.S_nil _ _ _ _ _
        have HS3 := Aside0.mk hs3
        have z3_ : W2.cell? ⟨gb_, 3, none⟩ = some (.slice A3 g.f3.length c3) := (blk_cell CP.out.b 3).trans rfl
        have BL := Aside0.mk (bulks_len g.f3)
        have hb3 : g.f3.length ≤ 1073741824 := by have := BL.out; omega
        clear HS hs3 hlt hj
        go_wp2_with fail
        go_loopg [32] g.f3.length (fun kq i wr => ∃ (j : Nat) (v3 : Value), j + kq = g.f3.length ∧ i = .int .i64 (j : Int) ∧ W2.heap.size ≤ wr.heap.size ∧ Aside0 (CpW w gb_ gr go_ #[.int .i64 g.f0, .slice A1 g.f1.length c1, .slice A2 g.f2.length c2, .slice A3 g.f3.length c3] g.f0 (.slice A4 g.f1.length c4) v2 v3 wr) ∧ Aside0 (Kd.R kPt 65 wr w.heap.size (fun k => k < W1.heap.size ∧ k ≠ go_) (.slice A4 g.f1.length c4) g.f1) ∧ Aside0 (Kd.S (Kd.slice 65 kPt) 22 wr w.heap.size (fun k => W1.heap.size ≤ k ∧ k < W2.heap.size) v2 g.f2) ∧ Aside0 (Kd.S (kSp n) 26 wr w.heap.size (fun k => W2.heap.size ≤ k) v3 (g.f3.take j)))
        case atStart => exact ⟨0, _, by omega, rfl, Nat.le_refl _, CP, HR, HS2, HS3⟩
        case round =>
          clear CP HR HS2 HS3
          obtain ⟨j, v3, hj, rfl, hszq, CP, HR, HS2, HS3⟩ := hrel
          cases gk with
          | zero =>
            have hlt : ¬ ((j : Int) < (g.f3.length : Int)) := by omega
            obtain rfl : j = g.f3.length := by omega
            rw [List.take_length] at HS3
            obtain ⟨A5, c5, e5⟩ := Kd.S_slice HS2.out
            obtain ⟨A6, c6, e6⟩ := Kd.S_slice HS3.out
            subst e5 e6
            have hW12 : W1.heap.size ≤ W2.heap.size := hsz
            have s0 : wr.cell? ⟨go_, 0, none⟩ = some (.int .i64 g.f0) := (blk_cell CP.out.o 0).trans rfl
            have s1 : wr.cell? ⟨go_, 1, none⟩ = some (.slice A4 g.f1.length c4) := (blk_cell CP.out.o 1).trans rfl
            have s2 : wr.cell? ⟨go_, 2, none⟩ = some (.slice A5 g.f2.length c5) := (blk_cell CP.out.o 2).trans rfl
            have s3 : wr.cell? ⟨go_, 3, none⟩ = some (.slice A6 g.f3.length c6) := (blk_cell CP.out.o 3).trans rfl
            have r0 : wr.cell? ⟨gr, 0, none⟩ = some (.int .i64 0) := (blk_cell CP.out.r 0).trans rfl
            have r1 : wr.cell? ⟨gr, 1, none⟩ = some (.slice none 0 0) := (blk_cell CP.out.r 1).trans rfl
            have r2 : wr.cell? ⟨gr, 2, none⟩ = some (.slice none 0 0) := (blk_cell CP.out.r 2).trans rfl
            have r3 : wr.cell? ⟨gr, 3, none⟩ = some (.slice none 0 0) := (blk_cell CP.out.r 3).trans rfl
            have t0 := blk_frozen CP.out.r 0
            have t1 := blk_frozen CP.out.r 1
            have t2 := blk_frozen CP.out.r 2
            have t3 := blk_frozen CP.out.r 3
            have hHC := Aside0.mk (And.intro hge (And.intro hlt' (And.intro hgo hW12)))
            clear hge hlt' hgo hW12 hlt hj hszq hsz
            go_wp2_with fail
            have bk := blk_set (blk_set (blk_set (blk_set CP.out.r 0 (.int .i64 g.f0)) 1 (.slice A4 g.f1.length c4)) 2 (.slice A5 g.f2.length c5)) 3 (.slice A6 g.f3.length c6)
            refine bodyPost_ret (results_geom (a := 2) (by rfl) _ _ (by rfl) (by simpa using bk)) rfl ?_
            obtain ⟨hge, hlt', hgo, hW12⟩ := hHC.out
            have hrr := Kd.R_far (p := ⟨gr, 3, none⟩) (Kd.R_far (p := ⟨gr, 2, none⟩) (Kd.R_far (p := ⟨gr, 1, none⟩) (Kd.R_far (p := ⟨gr, 0, none⟩) (Kd.R_types (Kd.R_bound HR.out) CP.out.r (by decide)) (fun _ h => h.2) (.int .i64 g.f0)) (fun _ h => h.2) (.slice A4 g.f1.length c4)) (fun _ h => h.2) (.slice A5 g.f2.length c5)) (fun _ h => h.2) (.slice A6 g.f3.length c6)
            have hss := Kd.S_far (p := ⟨gr, 3, none⟩) (Kd.S_far (p := ⟨gr, 2, none⟩) (Kd.S_far (p := ⟨gr, 1, none⟩) (Kd.S_far (p := ⟨gr, 0, none⟩) HS2.out (fun k h => by show k ≠ gr; omega) (.int .i64 g.f0)) (fun k h => by show k ≠ gr; omega) (.slice A4 g.f1.length c4)) (fun k h => by show k ≠ gr; omega) (.slice A5 g.f2.length c5)) (fun k h => by show k ≠ gr; omega) (.slice A6 g.f3.length c6)
            have hqq := Kd.S_far (p := ⟨gr, 3, none⟩) (Kd.S_far (p := ⟨gr, 2, none⟩) (Kd.S_far (p := ⟨gr, 1, none⟩) (Kd.S_far (p := ⟨gr, 0, none⟩) HS3.out (fun k h => by show k ≠ gr; omega) (.int .i64 g.f0)) (fun k h => by show k ≠ gr; omega) (.slice A4 g.f1.length c4)) (fun k h => by show k ≠ gr; omega) (.slice A5 g.f2.length c5)) (fun k h => by show k ≠ gr; omega) (.slice A6 g.f3.length c6)
            have hgr : w.heap.size ≤ gr := by omega
            refine ⟨_, rfl, ⟨[.int .i64 g.f0, .slice A4 g.f1.length c4, .slice A5 g.f2.length c5, .slice A6 g.f3.length c6], rfl, ?_⟩, (((CP.out.B.setCell (p := ⟨gr, 0, none⟩) hgr _).setCell (p := ⟨gr, 1, none⟩) hgr _).setCell (p := ⟨gr, 2, none⟩) hgr _).setCell (p := ⟨gr, 3, none⟩) hgr _⟩
            rw [kSp_M]
            exact ⟨_, _, _, _, _, _, rfl, fun k h => h.1.2.1, fun k h => by show w.heap.size ≤ k; omega, fun k h => by show w.heap.size ≤ k; omega, fun k h h' => by have := h.1.1.1; omega, fun k h h' => by have := h.1.1.1; omega, fun k h h' => by omega, hrr, hss, hqq⟩
          | succ kq =>
            have hlt : j < g.f3.length := by omega
            obtain ⟨a3, B1, d1, B2, d2, B3, d3, ea, p0, p1, p2, p3, m1, q1, m2, q2, m3, q3⟩ := at_Ge H3.out j (by omega) (by omega)
            subst ea
            rw [rd_Ge_at _ _ hlt] at p0 p1 p2 p3 q1 q2 q3 m1 m2 m3
            rw [Int.toNat_natCast] at p0 p1 p2 p3
            have p0' := cell_below CP.out.B p0
            have p1' := cell_below CP.out.B p1
            have p2' := cell_below CP.out.B p2
            have p3' := cell_below CP.out.B p3
            have HG := Aside0.mk (show IsG w (.agg #[.int .i64 (g.f3[j]).f0, .slice B1 (g.f3[j]).f1.length d1, .slice B2 (g.f3[j]).f2.length d2, .slice B3 (g.f3[j]).f3.length d3]) g.f3[j] from ⟨B1, d1, B2, d2, B3, d3, rfl, m1, q1, m2, q2, m3, q3⟩)
            have hpb : (g.f3[j]).bulk ≤ n := by have := bulks_mem (List.getElem_mem hlt); omega
            clear p0 p1 p2 p3 q1 q2 q3 m1 m2 m3
            go_wp2_with fail
            obtain ⟨Wb, hWb⟩ : ∃ Wb, Wb = wr.alloc (.cells #[.int .i64 (g.f3[j]).f0, .slice B1 (g.f3[j]).f1.length d1, .slice B2 (g.f3[j]).f2.length d2, .slice B3 (g.f3[j]).f3.length d3] 26) := ⟨_, rfl⟩
            rw [← hWb]
            obtain ⟨gp, hgp⟩ : ∃ gp, gp = wr.heap.size := ⟨_, rfl⟩
            rw [← hgp]
            have bkp : Wb.heap[gp]? = some (.cells #[.int .i64 (g.f3[j]).f0, .slice B1 (g.f3[j]).f1.length d1, .slice B2 (g.f3[j]).f2.length d2, .slice B3 (g.f3[j]).f3.length d3] 26 (0, 0)) := by rw [hWb, hgp]; exact World.alloc_heap_new _ _
            have hbb : Below wr.heap.size wr Wb := by rw [hWb]; exact below_alloc (Below.refl _ _) _
            have hszb : wr.heap.size ≤ Wb.heap.size := hbb.size
            have hvlt2 := Kd.S_lt HS3.out
            have cpb := CP.out.below hbb
            have hrb := Kd.R_below HR.out hbb
            have hsb := Kd.S_below HS2.out hbb
            have hqb := Kd.S_below HS3.out hbb
            have HGP := Aside0.mk hgp
            clear CP HR HS2 HS3 hWb hgp p0' p1' p2' p3'
            refine start_ (n := 8) (S := fun w' => w'.cell? ⟨go_, 3, none⟩ = some v3 ∧ w'.cell? ⟨gp, 0, none⟩ = some (.int .i64 (g.f3[j]).f0) ∧ w'.cell? ⟨gp, 1, none⟩ = some (.slice B1 (g.f3[j]).f1.length d1) ∧ w'.cell? ⟨gp, 2, none⟩ = some (.slice B2 (g.f3[j]).f2.length d2) ∧ w'.cell? ⟨gp, 3, none⟩ = some (.slice B3 (g.f3[j]).f3.length d3) ∧ True) (ds := [7]) #[false, false, false, false, false, false, false, false] hmx rfl rfl ⟨(blk_cell (w := Wb.drew) cpb.o 3).trans rfl, (blk_cell (w := Wb.drew) bkp 0).trans rfl, (blk_cell (w := Wb.drew) bkp 1).trans rfl, (blk_cell (w := Wb.drew) bkp 2).trans rfl, (blk_cell (w := Wb.drew) bkp 3).trans rfl, trivial⟩ (fun hHeld => ?_)
            (refine pure_ (i := 0) (N := some 36) (v := ?_) (a' := ?_) #[true, false, false, false, false, false, false, false] rfl rfl (by kernel_rfl) (fun _ _ _ h => h) (Or.inl ⟨by rfl, ?_⟩) ?_ ?_; rotate_left; (focus (intro w'_; go_simp; with_reducible rfl)); rotate_left; (focus (simp only [Act.put, List.setIfInBounds_toArray, List.set_cons_zero, List.set_cons_succ]; rfl)))
            (refine take_ (i := 1) (N := some 37) (v := ?_) (a' := ?_) #[true, true, false, false, false, false, false, false] rfl rfl (by kernel_rfl) (fun _ _ _ h => h) (Or.inl ⟨by rfl, ?_⟩) hHeld ?_ ?_; rotate_left; (focus (intro w'_ hs_; (repeat obtain ⟨_, hs_⟩ := hs_); go_simp; with_reducible rfl)); rotate_left; (focus (simp only [Act.put, List.setIfInBounds_toArray, List.set_cons_zero, List.set_cons_succ]; rfl)))
            (refine take_ (i := 2) (N := some 38) (v := ?_) (a' := ?_) #[true, true, true, false, false, false, false, false] rfl rfl (by kernel_rfl) (fun _ _ _ h => h) (Or.inl ⟨by rfl, ?_⟩) hHeld ?_ ?_; rotate_left; (focus (intro w'_ hs_; (repeat obtain ⟨_, hs_⟩ := hs_); go_simp; with_reducible rfl)); rotate_left; (focus (simp only [Act.put, List.setIfInBounds_toArray, List.set_cons_zero, List.set_cons_succ]; rfl)))
            refine one_ (i := 3) (N := some 39) #[true, true, true, true, false, false, false, false] rfl rfl (by kernel_rfl) (by decide) (fun K hK => ?_)
            refine goes_ Tryd.func47 (by kernel_rfl) rfl #[.agg #[.int .i64 (g.f3[j]).f0, .slice B1 (g.f3[j]).f1.length d1, .slice B2 (g.f3[j]).f2.length d2, .slice B3 (g.f3[j]).f3.length d3]] (by rfl) rfl rfl (by (try simp only [List.map_toArray, List.map_cons, List.map_nil]); first | done | rfl) ?_
            refine (IH.out _ g.f3[j] Wb.drew (HG.out.below (below_drew cpb.B)) hpb (by omega)).mono ?_
            rintro e w1 ⟨vr, rfl, ⟨cs, rfl, hM⟩, hb1⟩
            obtain ⟨E1, e1, E2, e2, E3, e3, rfl, _⟩ := kGe_open (kSp_K n ((kSp n).K_of_M hM))
            have hszd : Wb.drew.heap.size = Wb.heap.size := rfl
            have cp := (cpb.below (below_drew (Below.refl _ _))).below hb1
            have bk1 := blk_below (w := Wb.drew) bkp hb1
            have hr2 := Kd.R_below (w := Wb.drew) (Kd.R_drew hrb) hb1
            have hs2 := Kd.S_below (w := Wb.drew) (Kd.S_drew hsb) hb1
            have hq2 := Kd.S_old (W := Wb.drew) (Kd.S_drew hqb) hb1
            have hvlt := Kd.S_lt hqb
            have hsz1 : Wb.heap.size ≤ w1.heap.size := hb1.size
            clear cpb hrb hsb hqb bkp
            refine ⟨_, rfl, hK.out _ _ ⟨(blk_cell cp.o 3).trans rfl, (blk_cell bk1 0).trans rfl, (blk_cell bk1 1).trans rfl, (blk_cell bk1 2).trans rfl, (blk_cell bk1 3).trans rfl, trivial⟩ (fun hHeld2 => ?_)⟩
            clear hK K hHeld
            (refine norm_ (a' := ?_) ?_ ?_; rotate_left; focus (show Act.put _ (some 39) _ = _; simp only [Act.put, List.setIfInBounds_toArray, List.set_cons_zero, List.set_cons_succ]; rfl))
            refine one_ (i := 4) (N := some 40) #[true, true, true, true, true, false, false, false] rfl rfl (by kernel_rfl) (by decide) (fun K hK => ?_)
            (refine value_ (w1 := ?_) (v := ?_) (by rfl) rfl ?_ ?_; rotate_left 2; (focus (go_simp; constructor <;> rfl)))
            refine hK.out _ _ ⟨(blk_cell (blk_alloc cp.o _) 3).trans rfl, (blk_cell (blk_alloc bk1 _) 0).trans rfl, (blk_cell (blk_alloc bk1 _) 1).trans rfl, (blk_cell (blk_alloc bk1 _) 2).trans rfl, (blk_cell (blk_alloc bk1 _) 3).trans rfl, trivial⟩ (fun hHeld => ?_)
            clear hK K hHeld2
            (refine norm_ (a' := ?_) ?_ ?_; rotate_left; focus (show Act.put _ (some 40) _ = _; simp only [Act.put, List.setIfInBounds_toArray, List.set_cons_zero, List.set_cons_succ]; rfl))
            refine one_ (i := 5) (N := some 41) #[true, true, true, true, true, true, false, false] rfl rfl (by kernel_rfl) (by decide) (fun K hK => ?_)
            refine Kd.S_append_step (kSp n) (w0 := w) w.heap.size (by rfl) (.tmp 37) (.tmp 40) 24 26 (.agg #[.int .i64 0, .slice none 0 0, .slice none 0 0, .slice none 0 0]) 80 rfl Tryd.underlying24 (by rw [kSp_sz]; exact infoGe) (by rw [kSp_sz]; rfl) (by rw [kSp_sz]; decide) (by omega) v3 (g.f3.take j) g.f3[j] [.int .i64 (g.f3[j]).f0, .slice E1 (g.f3[j]).f1.length e1, .slice E2 (g.f3[j]).f2.length e2, .slice E3 (g.f3[j]).f3.length e3] (fun k => W2.heap.size ≤ k) (fun k => Wb.heap.size ≤ k) rfl rfl ?aP ?aK ?aF ?aO ?aB ?aS ?aL ?_
            case aP => exact (kSp n).M_lower (by show w.heap.size ≤ Wb.heap.size; have := hge.1; omega) ((kSp n).M_mono (fun k h => h) hM)
            case aK => exact fun k h => ⟨by omega, fun e => by have := hvlt k e.symm; omega⟩
            case aF => exact fun k h => by omega
            case aO => exact Kd.S_mono hq2 (fun k h => ⟨h.1, by have := h.2; show ¬ _ ≤ k; omega⟩)
            case aB => exact cp.B
            case aS => have := hge.1; omega
            case aL => rw [List.length_take]; omega
            intro v4 w2 ho2 hb2 hg2 hat2
            obtain ⟨T, hT⟩ : ∃ T, T = List.take j g.f3 ++ [g.f3[j]] := ⟨_, rfl⟩
            rw [← hT] at ho2
            rw [← List.take_succ_eq_append_getElem hlt] at hT
            have HT := Aside0.mk hT
            clear hT
            obtain ⟨A6, c6, e6⟩ := Kd.S_slice ho2
            subst e6
            have hown : ∀ k, v3.ownBlock = some k → W2.heap.size ≤ k := fun k e => (Kd.S_R hq2).1 k e |>.1
            have hW12 : W1.heap.size ≤ W2.heap.size := hsz
            have cp2 := cp.grown hg2 hb2 (fun e => by have := hown _ e.symm; omega) (fun e => by have := hown _ e.symm; omega) (fun e => by have := hown _ e.symm; omega)
            have hr3 := Kd.R_grown hr2 hg2 (fun k h e => by have := hown _ e.symm; omega)
            have hs3 := Kd.S_grown hs2 hg2 (fun k h e => by have := hown _ e.symm; omega)
            have bk2 := blk_grown bk1 hg2 (fun e => by have := hvlt2 _ e.symm; have := HGP.out; omega)
            have hsz2 : wr.heap.size ≤ w2.heap.size := Nat.le_trans hszb (Nat.le_trans hsz1 hg2.size)
            clear cp hr2 hs2 hq2 bk1
            refine hK.out _ _ ⟨(blk_cell cp2.o 3).trans rfl, (blk_cell bk2 0).trans rfl, (blk_cell bk2 1).trans rfl, (blk_cell bk2 2).trans rfl, (blk_cell bk2 3).trans rfl, trivial⟩ (fun hHeld2 => ?_)
            clear hK K hHeld
            (refine norm_ (a' := ?_) ?_ ?_; rotate_left; focus (show Act.put _ (some 41) _ = _; simp only [Act.put, List.setIfInBounds_toArray, List.set_cons_zero, List.set_cons_succ]; rfl))
            (refine pure_ (i := 6) (N := some 42) (v := ?_) (a' := ?_) #[true, true, true, true, true, true, true, false] rfl rfl (by kernel_rfl) (fun _ _ _ h => h) (Or.inl ⟨by rfl, ?_⟩) ?_ ?_; rotate_left; (focus (intro w'_; go_simp; with_reducible rfl)); rotate_left; (focus (simp only [Act.put, List.setIfInBounds_toArray, List.set_cons_zero, List.set_cons_succ]; rfl)))
            refine last_ (i := 7) (N := none) #[true, true, true, true, true, true, true, true] rfl rfl (by kernel_rfl) (by decide) (fun K hK => ?_)
            have hs0 : w2.cell? ⟨go_, 3, none⟩ = some v3 := (blk_cell cp2.o 3).trans rfl
            have hf0 := blk_frozen cp2.o 3
            refine skip_ (w1 := ?_) (by rfl) rfl ?_ ?_
            rotate_left
            · go_simp
              rfl
            refine hK.out _ _ ?_
            clear hK K
            refine done_ (by kernel_rfl) ?_
            have cp3 := cp2.set3 (by omega) (by omega) (by omega) (.slice A6 T.length c6)
            have hr4 := Kd.R_far (p := ⟨go_, 3, none⟩) hr3 (fun k h => h.2) (.slice A6 T.length c6)
            have hs4 := Kd.S_set hs3 cp2.o (by decide) 3 (.slice A6 T.length c6)
            have hq4 := Kd.S_far (p := ⟨go_, 3, none⟩) ho2 (fun k h => by show k ≠ go_; omega) (.slice A6 T.length c6)
            clear cp2 hr3 ho2 hs0 hf0 hHeld2 hs3 bk2
            have hsz3 : W2.heap.size ≤ (w2.setCell ⟨go_, 3, none⟩ (.slice A6 T.length c6)).heap.size := by simp; omega
            obtain ⟨v5, hv5⟩ : ∃ v5, v5 = Value.slice A6 T.length c6 := ⟨_, rfl⟩
            rw [← hv5] at cp3 hr4 hs4 hq4 hsz3 ⊢
            obtain ⟨W4, hW4⟩ : ∃ W4, W4 = w2.setCell ⟨go_, 3, none⟩ v5 := ⟨_, rfl⟩
            rw [← hW4] at cp3 hr4 hs4 hq4 hsz3 ⊢
            clear hv5 hW4
            go_wp2_with fail
            go_roundg kq
            case measure => omega
            case rel => exact ⟨j + 1, _, by omega, by go_num, hsz3, ⟨cp3⟩, ⟨hr4⟩, ⟨hs4⟩, ⟨by rw [← HT.out]; exact hq4⟩⟩
      | succ kq =>
        have hlt : j < g.f2.length := by omega
        obtain ⟨a2, A0, c0, ea, hx, hl, hc⟩ := at_L2 H2.out j (by omega) (by omega)
        subst ea
        rw [rd_L2_at _ _ hlt, Int.toNat_natCast] at hx
        rw [rd_L2_at _ _ hlt] at hc
        have hx2 := cell_below CP.out.B hx
        have hlen : (g.f2[j]).length ≤ 1073741824 := by
          have := U.out (j + 1)
          rw [upTo_succ g.f2 j hlt] at this
          omega
        have HCC := Aside0.mk hc
        clear hx hl hc
        go_wp2_with fail
        refine start_ (n := 8) (S := fun w' => w'.cell? ⟨go_, 2, none⟩ = some v2 ∧ True) (ds := [7]) #[false, false, false, false, false, false, false, false] hmx rfl rfl ⟨(blk_cell (w := wr.drew) CP.out.o 2).trans rfl, trivial⟩ (fun hHeld => ?_)
        (refine pure_ (i := 0) (N := some 21) (v := ?_) (a' := ?_) #[true, false, false, false, false, false, false, false] rfl rfl (by kernel_rfl) (fun _ _ _ h => h) (Or.inl ⟨by rfl, ?_⟩) ?_ ?_; rotate_left; (focus (intro w'_; go_simp; with_reducible rfl)); rotate_left; (focus (simp only [Act.put, List.setIfInBounds_toArray, List.set_cons_zero, List.set_cons_succ]; rfl)))
        (refine pure_ (i := 2) (N := some 23) (v := ?_) (a' := ?_) #[true, false, true, false, false, false, false, false] rfl rfl (by kernel_rfl) (fun _ _ _ h => h) (Or.inl ⟨by rfl, ?_⟩) ?_ ?_; rotate_left; (focus (intro w'_; go_simp; with_reducible rfl)); rotate_left; (focus (simp only [Act.put, List.setIfInBounds_toArray, List.set_cons_zero, List.set_cons_succ]; rfl)))
        (refine take_ (i := 1) (N := some 22) (v := ?_) (a' := ?_) #[true, true, true, false, false, false, false, false] rfl rfl (by kernel_rfl) (fun _ _ _ h => h) (Or.inl ⟨by rfl, ?_⟩) hHeld ?_ ?_; rotate_left; (focus (intro w'_ hs_; (repeat obtain ⟨_, hs_⟩ := hs_); go_simp; with_reducible rfl)); rotate_left; (focus (simp only [Act.put, List.setIfInBounds_toArray, List.set_cons_zero, List.set_cons_succ]; rfl)))
        refine one_ (i := 3) (N := some 24) #[true, true, true, true, false, false, false, false] rfl rfl (by kernel_rfl) (by decide) (fun K hK => ?_)
        refine goes_ Tryd.func38 (by kernel_rfl) rfl #[.slice A0 (g.f2[j]).length c0] (by rfl) rfl rfl (by (try simp only [List.map_toArray, List.map_cons, List.map_nil]); first | done | rfl) ?_
        refine (copied_calls A0 c0 g.f2[j] wr.drew (Kd.C_below HCC.out (below_drew CP.out.B)) hlen).mono ?_
        rintro e w1 ⟨vr, rfl, ho, hb1⟩
        obtain ⟨A5, c5, e5⟩ := Kd.R_slice ho
        subst e5
        have hszd : wr.drew.heap.size = wr.heap.size := rfl
        have cp := (CP.out.below (below_drew (Below.refl _ _))).below hb1
        have hr2 := Kd.R_below (w := wr.drew) (Kd.R_drew HR.out) hb1
        have hs2 := Kd.S_old (W := wr.drew) (Kd.S_drew HS.out) hb1
        have hvlt := Kd.S_lt HS.out
        have hsz1 : wr.heap.size ≤ w1.heap.size := hb1.size
        have hgrown := Kd.R_bound ho
        clear CP HR HS
        refine ⟨_, rfl, hK.out _ _ ⟨(blk_cell cp.o 2).trans rfl, trivial⟩ (fun hHeld2 => ?_)⟩
        clear hK K hHeld
        (refine norm_ (a' := ?_) ?_ ?_; rotate_left; focus (show Act.put _ (some 24) _ = _; simp only [Act.put, List.setIfInBounds_toArray, List.set_cons_zero, List.set_cons_succ]; rfl))
        refine one_ (i := 4) (N := some 25) #[true, true, true, true, true, false, false, false] rfl rfl (by kernel_rfl) (by decide) (fun K hK => ?_)
        (refine value_ (w1 := ?_) (v := ?_) (by rfl) rfl ?_ ?_; rotate_left 2; (focus (go_simp; constructor <;> rfl)))
        refine hK.out _ _ ⟨(blk_cell (blk_alloc cp.o _) 2).trans rfl, trivial⟩ (fun hHeld => ?_)
        clear hK K hHeld2
        (refine norm_ (a' := ?_) ?_ ?_; rotate_left; focus (show Act.put _ (some 25) _ = _; simp only [Act.put, List.setIfInBounds_toArray, List.set_cons_zero, List.set_cons_succ]; rfl))
        refine one_ (i := 5) (N := some 26) #[true, true, true, true, true, true, false, false] rfl rfl (by kernel_rfl) (by decide) (fun K hK => ?_)
        refine Kd.S_append_step (Kd.slice 65 kPt) (w0 := w) w.heap.size (by rfl) (.tmp 22) (.tmp 25) 23 22 (.slice none 0 0) 24 rfl Tryd.underlying23 infoPts rfl (by decide) (by omega) v2 (g.f2.take j) g.f2[j] [.slice A5 (g.f2[j]).length c5] (fun k => W1.heap.size ≤ k) (fun k => wr.heap.size ≤ k) rfl rfl ?aP ?aK ?aF ?aO ?aB ?aS ?aL ?_
        case aP => exact Kd.M_row (Kd.R_lower (Kd.R_mono hgrown (fun k h => h.2.1)) (by have := hge.1; show w.heap.size ≤ wr.heap.size; omega))
        case aK => exact fun k h => ⟨by omega, fun e => by have := hvlt k e.symm; omega⟩
        case aF => exact fun k h => by omega
        case aO => exact Kd.S_mono hs2 (fun k h => ⟨h.1, by have := h.2; show ¬ _ ≤ k; omega⟩)
        case aB => exact cp.B
        case aS => have := hge.1; omega
        case aL => rw [List.length_take]; omega
        intro v3 w2 ho2 hb2 hg2 hat2
        obtain ⟨T, hT⟩ : ∃ T, T = List.take j g.f2 ++ [g.f2[j]] := ⟨_, rfl⟩
        rw [← hT] at ho2
        rw [← List.take_succ_eq_append_getElem hlt] at hT
        have HT := Aside0.mk hT
        clear hT
        obtain ⟨A6, c6, e6⟩ := Kd.S_slice ho2
        subst e6
        have hown : ∀ k, v2.ownBlock = some k → W1.heap.size ≤ k := fun k e => (Kd.S_R hs2).1 k e |>.1
        have cp2 := cp.grown hg2 hb2 (fun e => by have := hown _ e.symm; omega) (fun e => by have := hown _ e.symm; omega) (fun e => by have := hown _ e.symm; omega)
        have hr3 := Kd.R_grown hr2 hg2 (fun k h e => by have := hown _ e.symm; omega)
        have hsz2 : wr.heap.size ≤ w2.heap.size := Nat.le_trans hsz1 hg2.size
        clear cp hr2 hs2
        refine hK.out _ _ ⟨(blk_cell cp2.o 2).trans rfl, trivial⟩ (fun hHeld2 => ?_)
        clear hK K hHeld
        (refine norm_ (a' := ?_) ?_ ?_; rotate_left; focus (show Act.put _ (some 26) _ = _; simp only [Act.put, List.setIfInBounds_toArray, List.set_cons_zero, List.set_cons_succ]; rfl))
        (refine pure_ (i := 6) (N := some 27) (v := ?_) (a' := ?_) #[true, true, true, true, true, true, true, false] rfl rfl (by kernel_rfl) (fun _ _ _ h => h) (Or.inl ⟨by rfl, ?_⟩) ?_ ?_; rotate_left; (focus (intro w'_; go_simp; with_reducible rfl)); rotate_left; (focus (simp only [Act.put, List.setIfInBounds_toArray, List.set_cons_zero, List.set_cons_succ]; rfl)))
        refine last_ (i := 7) (N := none) #[true, true, true, true, true, true, true, true] rfl rfl (by kernel_rfl) (by decide) (fun K hK => ?_)
        have hs0 : w2.cell? ⟨go_, 2, none⟩ = some v2 := (blk_cell cp2.o 2).trans rfl
        have hf0 := blk_frozen cp2.o 2
        refine skip_ (w1 := ?_) (by rfl) rfl ?_ ?_
        rotate_left
        · go_simp
          rfl
        refine hK.out _ _ ?_
        clear hK K
        refine done_ (by kernel_rfl) ?_
        have cp3 := cp2.set2 (by omega) (by omega) (by omega) (.slice A6 T.length c6)
        have hr4 := Kd.R_far (p := ⟨go_, 2, none⟩) hr3 (fun k h => h.2) (.slice A6 T.length c6)
        have hs4 := Kd.S_set ho2 cp2.o (by decide) 2 (.slice A6 T.length c6)
        clear cp2 hr3 ho2 hs0 hf0 hHeld2
        have hsz3 : W1.heap.size ≤ (w2.setCell ⟨go_, 2, none⟩ (.slice A6 T.length c6)).heap.size := by simp; omega
        go_wp2_with fail
        go_roundg kq
        case measure => omega
        case rel => exact ⟨j + 1, _, by omega, by go_num, hsz3, ⟨cp3⟩, ⟨hr4⟩, ⟨by rw [← HT.out]; exact hs4⟩⟩
end Go.Proofs.YtmcbniobbbjdjaaDoor.Tree
