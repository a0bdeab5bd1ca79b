/- The laws' roomy by contract. No conditions but those told. -/
import Derived.Test.YtmcbniobbbjdjaaDoorTRoom
namespace Go.Proofs.YtmcbniobbbjdjaaDoor.Tree
open Go.RowKit Go.Proofs.YtmcbniobbbjdjaaDoorW.PrintWords Go.Proofs.YtmcbniobbbjdjaaDoorW.PrintLast Go.Proofs.YtmcbniobbbjdjaaDoorW.PrintMore
set_option linter.unusedVariables false
set_option linter.unusedSimpArgs false
/-- The boxes of a walk of roomy: the tree's, the result's, the answer's, the mark's. -/
structure RmW (w : World) (gb gr gh gm : Nat) (gc : Array Value) (k : Int) (v1 v2 v3 : Value) (W : World) : Prop where
  b : W.heap[gb]? = some (.cells gc 26 (0, 0))
  r : W.heap[gr]? = some (.cells #[.int .i64 0, .slice none 0 0, .slice none 0 0, .slice none 0 0] 26 (0, 0))
  o : W.heap[gh]? = some (.cells #[.int .i64 k, v1, v2, v3] 26 (0, 0))
  m : W.heap[gm]? = some (.cells #[.int .u64 42405, .int .u64 42406] 65 (0, 0))
  B : Below w.heap.size w W
section
variable {w W W' : World} {gb gr gh gm : Nat} {gc : Array Value} {k : Int} {v1 v2 v3 : Value}
theorem RmW.below (h : RmW w gb gr gh gm gc k v1 v2 v3 W) (hb : Below W.heap.size W W') : RmW w gb gr gh gm gc k v1 v2 v3 W' := ⟨blk_below h.b hb, blk_below h.r hb, blk_below h.o hb, blk_below h.m hb, below_step h.B hb⟩
theorem RmW.grown (h : RmW w gb gr gh gm gc k v1 v2 v3 W) {row : Option Nat} (hg : W.grownBy W' row) (hb : Below w.heap.size w W') (h1 : some gb ≠ row) (h2 : some gr ≠ row) (h3 : some gh ≠ row) (h4 : some gm ≠ row) : RmW w gb gr gh gm gc k v1 v2 v3 W' :=
  ⟨blk_grown h.b hg h1, blk_grown h.r hg h2, blk_grown h.o hg h3, blk_grown h.m hg h4, hb⟩
theorem RmW.set1 (h : RmW w gb gr gh gm gc k v1 v2 v3 W) (hb : gb ≠ gh) (hr : gr ≠ gh) (hm : gm ≠ gh) (ho : w.heap.size ≤ gh) (u : Value) : RmW w gb gr gh gm gc k u v2 v3 (W.setCell ⟨gh, 1, none⟩ u) :=
  ⟨blk_far h.b (p := ⟨gh, 1, none⟩) hb _, blk_far h.r (p := ⟨gh, 1, none⟩) hr _, by simpa using blk_set h.o 1 u, blk_far h.m (p := ⟨gh, 1, none⟩) hm _, h.B.setCell (p := ⟨gh, 1, none⟩) ho u⟩
theorem RmW.set2 (h : RmW w gb gr gh gm gc k v1 v2 v3 W) (hb : gb ≠ gh) (hr : gr ≠ gh) (hm : gm ≠ gh) (ho : w.heap.size ≤ gh) (u : Value) : RmW w gb gr gh gm gc k v1 u v3 (W.setCell ⟨gh, 2, none⟩ u) :=
  ⟨blk_far h.b (p := ⟨gh, 2, none⟩) hb _, blk_far h.r (p := ⟨gh, 2, none⟩) hr _, by simpa using blk_set h.o 2 u, blk_far h.m (p := ⟨gh, 2, none⟩) hm _, h.B.setCell (p := ⟨gh, 2, none⟩) ho u⟩
theorem RmW.set3 (h : RmW w gb gr gh gm gc k v1 v2 v3 W) (hb : gb ≠ gh) (hr : gr ≠ gh) (hm : gm ≠ gh) (ho : w.heap.size ≤ gh) (u : Value) : RmW w gb gr gh gm gc k v1 v2 u (W.setCell ⟨gh, 3, none⟩ u) :=
  ⟨blk_far h.b (p := ⟨gh, 3, none⟩) hb _, blk_far h.r (p := ⟨gh, 3, none⟩) hr _, by simpa using blk_set h.o 3 u, blk_far h.m (p := ⟨gh, 3, none⟩) hm _, h.B.setCell (p := ⟨gh, 3, none⟩) ho u⟩
end
theorem C_mark {W : World} {b : Nat} (hb : W.heap[b]? = some (.cells #[.int .u64 42405, .int .u64 42406] 65 (0, 0))) : Kd.C kPt W (some ⟨b, 0, none⟩) 1 [mark] := by
  refine ⟨rfl, by decide, fun _ => ⟨_, rfl, fun j p hj => ⟨[.int .u64 42405, .int .u64 42406], rfl, ?_, fun i u hu => ?_⟩⟩⟩
  · cases j with
    | zero => obtain rfl : mark = p := by simpa using hj
              exact kPt_mk W mark
    | succ j => simp at hj
  · cases j with
    | zero =>
      have h := blk_cell hb (0 * kPt.sz + i)
      rw [add_plain, h]
      simpa using hu
    | succ j => simp at hj
/-- A row of no points, laid by a literal. -/
theorem R_pts0 (W : World) {base : Nat} (hb : base ≤ W.heap.size) (ok : Nat → Prop) (hok : ok W.heap.size) : Kd.R kPt 65 (W.alloc (.cells #[] 65)) base ok (.slice (some ⟨W.heap.size, 0, none⟩) 0 0) [] := by
  refine ⟨fun k hk => ?_, [], ?_, rfl, fun j p hj => by simp at hj⟩
  · have : W.heap.size = k := by simpa [Value.ownBlock] using hk
    subst this
    exact hok
  · have h := World.ownsRow_lit (base := base) (e := 65) (size := 2) W #[] 0 hb (by decide) (by simp)
    exact h
/-- A row of the mark, laid by a literal. -/
theorem R_mark1 (W : World) {base : Nat} (hb : base ≤ W.heap.size) (ok : Nat → Prop) (hok : ok W.heap.size) : Kd.R kPt 65 (W.alloc (.cells #[.int .u64 42405, .int .u64 42406] 65)) base ok (.slice (some ⟨W.heap.size, 0, none⟩) 1 1) [mark] := by
  refine ⟨fun k hk => ?_, [.int .u64 42405, .int .u64 42406], ?_, rfl, fun j p hj => ?_⟩
  · have : W.heap.size = k := by simpa [Value.ownBlock] using hk
    subst this
    exact hok
  · have h := World.ownsRow_lit (base := base) (e := 65) (size := 2) W #[.int .u64 42405, .int .u64 42406] 1 hb (by decide) (by simp)
    exact h
  · cases j with
    | zero =>
      have : mark = p := by simpa using hj
      subst this
      exact kPt_mkM _ _ _ mark
    | succ j => simp at hj
set_option maxRecDepth 100000 in
set_option maxHeartbeats 4000000 in
theorem roomy_calls (n : Nat) : ∀ (v : Value) (g : Ge) (w : World), IsG w v g → g.bulk ≤ n → n ≤ 1073741824 →
    Calls Tryd.prog 12 #[v] w fun e w' => ∃ cs, e = .returned (.agg cs.toArray) ∧ (kRm n).M w' w.heap.size (fun _ => True) g cs ∧ Below w.heap.size w w' := by
  induction n with
  | zero => intro v g w _ h; have := g.bulk_eq; omega
  | succ n ih =>
  intro v g w hv hbk hn
  obtain ⟨A1, c1, A2, c2, A3, c3, rfl, l1, h1, l2, h2, l3, h3⟩ := hv
  have hbq := g.bulk_eq
  have H1 := Aside0.mk h1
  have H2 := Aside0.mk h2
  have H3 := Aside0.mk h3
  have hu := Tryd.underlying26
  have hup := Tryd.underlying65
  have U := Aside0.mk (upTo_le g.f2)
  have IH := Aside0.mk ih
  clear h1 h2 h3 ih
  have HB := Aside0.mk (Below.refl w.heap.size w)
  have hmx : Tryd.prog.follows .mixedOrders = true := by kernel_rfl
  go_enter Tryd.func12, Tryd.ntmps12
  go_wp2_with (first
    | ((with_reducible refine gate_dst (N := 1) rfl ?_); refine box_event ?hg (N := 1) ?hd (cs := #[.int .i64 g.f0, .slice A1 g.f1.length c1, .slice A2 g.f2.length c2, .slice A3 g.f3.length c3]) (t := 26) ?hr ?_; (case hd => rfl); (case hg => rfl); (case hr => first | (go_simp; done) | (go_simp; rfl)); intro gb_ hgb_ wb_ hbox_ hbb_; have GE := Aside0.mk (show w.heap.size ≤ gb_ from by rw [hgb_]; exact below_size (by repeat (first | (with_reducible first | exact HB.out | apply below_alloc | apply pw_below_drewN | apply below_drew1) | exact HB.out))); have n_ := Aside0.mk (below_step (by repeat (first | (with_reducible first | exact HB.out | apply below_alloc | apply pw_below_drewN | apply below_drew1) | exact HB.out)) hbb_); clear HB; have HB := n_; have BK := Aside0.mk hbox_; (have z0_ : wb_.cell? ⟨gb_, 0, none⟩ = some (.int .i64 g.f0) := (blk_cell BK.out 0).trans rfl; have z1_ : wb_.cell? ⟨gb_, 1, none⟩ = some (.slice A1 g.f1.length c1) := (blk_cell BK.out 1).trans rfl; have z2_ : wb_.cell? ⟨gb_, 2, none⟩ = some (.slice A2 g.f2.length c2) := (blk_cell BK.out 2).trans rfl; have z3_ : wb_.cell? ⟨gb_, 3, none⟩ = some (.slice A3 g.f3.length c3) := (blk_cell BK.out 3).trans rfl; have hgq : gb_ < wb_.heap.size := blk_lt BK.out; have hgq2 : gb_ ≠ wb_.heap.size := Nat.ne_of_lt hgq); clear n_ hbox_ hbb_ hgb_))
  obtain ⟨gr, hgr⟩ : ∃ gr, gr = wb_.heap.size := ⟨_, rfl⟩
  obtain ⟨gh, hgh⟩ : ∃ gh, gh = wb_.heap.size + 1 := ⟨_, rfl⟩
  obtain ⟨gm, hgm⟩ : ∃ gm, gm = wb_.heap.size + 1 + 1 := ⟨_, rfl⟩
  obtain ⟨W0, hW0⟩ : ∃ W0, W0 = ((wb_.alloc (.cells #[.int .i64 0, .slice none 0 0, .slice none 0 0, .slice none 0 0] 26)).alloc (.cells #[.int .i64 g.f0, .slice none 0 0, .slice none 0 0, .slice none 0 0] 26)).alloc (.cells #[.int .u64 42405, .int .u64 42406] 65) := ⟨_, rfl⟩
  rw [← hW0, ← hgm, ← hgh, ← hgr]
  have rm0 : RmW w gb_ gr gh gm #[.int .i64 g.f0, .slice A1 g.f1.length c1, .slice A2 g.f2.length c2, .slice A3 g.f3.length c3] g.f0 (.slice none 0 0) (.slice none 0 0) (.slice none 0 0) W0 := by
    rw [hW0, hgr, hgh, hgm]
    exact ⟨blk_alloc (blk_alloc (blk_alloc BK.out _) _) _, blk_alloc (blk_alloc (World.alloc_heap_new _ _) _) _, blk_alloc (by have := World.alloc_heap_new (wb_.alloc (.cells #[.int .i64 0, .slice none 0 0, .slice none 0 0, .slice none 0 0] 26)) (.cells #[.int .i64 g.f0, .slice none 0 0, .slice none 0 0, .slice none 0 0] 26); simpa using this) _, by have := World.alloc_heap_new ((wb_.alloc (.cells #[.int .i64 0, .slice none 0 0, .slice none 0 0, .slice none 0 0] 26)).alloc (.cells #[.int .i64 g.f0, .slice none 0 0, .slice none 0 0, .slice none 0 0] 26)) (.cells #[.int .u64 42405, .int .u64 42406] 65); simpa using this, below_alloc (below_alloc (below_alloc HB.out _) _) _⟩
  have hord : w.heap.size ≤ gb_ ∧ gb_ < gr ∧ gr < gh ∧ gh < gm ∧ gm < W0.heap.size := by
    have := GE.out
    refine ⟨this, by omega, by omega, by omega, blk_lt rm0.m⟩
  have HORD := Aside0.mk hord
  have RM := Aside0.mk rm0
  clear hW0 hgr hgh hgm HB BK GE z0_ z1_ z2_ z3_ hgq hgq2 rm0 hord
  refine start_ (n := 14) (S := fun w' => w'.cell? ⟨gh, 1, none⟩ = some (.slice none 0 0) ∧ w'.cell? ⟨gb_, 1, none⟩ = some (.slice A1 g.f1.length c1) ∧ w'.cell? ⟨gm, 0, none⟩ = some (.int .u64 42405) ∧ w'.cell? ⟨gm, 1, none⟩ = some (.int .u64 42406) ∧ True) (ds := [13]) #[false, false, false, false, false, false, false, false, false, false, false, false, false, false] hmx rfl rfl ⟨(blk_cell (w := W0.drew) RM.out.o 1).trans rfl, (blk_cell (w := W0.drew) RM.out.b 1).trans rfl, (blk_cell (w := W0.drew) RM.out.m 0).trans rfl, (blk_cell (w := W0.drew) RM.out.m 1).trans rfl, trivial⟩ (fun hHeld => ?_)
  have RM0 := Aside0.mk (show RmW w gb_ gr gh gm #[.int .i64 g.f0, .slice A1 g.f1.length c1, .slice A2 g.f2.length c2, .slice A3 g.f3.length c3] g.f0 (.slice none 0 0) (.slice none 0 0) (.slice none 0 0) W0.drew from RM.out.below (below_drew (Below.refl _ _)))
  have HSZ := Aside0.mk (show W0.drew.heap.size = W0.heap.size from rfl)
  generalize W0.drew = Wd at RM0 HSZ hHeld ⊢
  (refine pure_ (i := 0) (N := some 11) (v := ?_) (a' := ?_) #[true, false, false, false, false, false, false, false, false, false, false, false, false, false] rfl rfl (by kernel_rfl) (fun _ _ _ h => h) (Or.inl ⟨by rfl, ?_⟩) ?_ ?_; rotate_left; (focus (intro w'_; go_simp; with_reducible rfl)); rotate_left; (focus (simp only [Act.put, List.setIfInBounds_toArray, List.set_cons_zero, List.set_cons_succ]; rfl)))
  (refine pure_ (i := 2) (N := some 13) (v := ?_) (a' := ?_) #[true, false, true, false, false, false, false, false, false, false, false, false, false, false] rfl rfl (by kernel_rfl) (fun _ _ _ h => h) (Or.inl ⟨by rfl, ?_⟩) ?_ ?_; rotate_left; (focus (intro w'_; go_simp; with_reducible rfl)); rotate_left; (focus (simp only [Act.put, List.setIfInBounds_toArray, List.set_cons_zero, List.set_cons_succ]; rfl)))
  (refine pure_ (i := 8) (N := some 19) (v := ?_) (a' := ?_) #[true, false, true, false, false, false, false, false, true, false, false, false, false, false] rfl rfl (by kernel_rfl) (fun _ _ _ h => h) (Or.inl ⟨by rfl, ?_⟩) ?_ ?_; rotate_left; (focus (intro w'_; go_simp; with_reducible rfl)); rotate_left; (focus (simp only [Act.put, List.setIfInBounds_toArray, List.set_cons_zero, List.set_cons_succ]; rfl)))
  (refine take_ (i := 1) (N := some 12) (v := ?_) (a' := ?_) #[true, true, true, false, false, false, false, false, true, false, false, false, false, false] rfl rfl (by kernel_rfl) (fun _ _ _ h => h) (Or.inl ⟨by rfl, ?_⟩) hHeld ?_ ?_; rotate_left; (focus (intro w'_ hs_; (repeat obtain ⟨_, hs_⟩ := hs_); go_simp; with_reducible rfl)); rotate_left; (focus (simp only [Act.put, List.setIfInBounds_toArray, List.set_cons_zero, List.set_cons_succ]; rfl)))
  (refine take_ (i := 3) (N := some 14) (v := ?_) (a' := ?_) #[true, true, true, true, false, false, false, false, true, false, false, false, false, false] rfl rfl (by kernel_rfl) (fun _ _ _ h => h) (Or.inl ⟨by rfl, ?_⟩) hHeld ?_ ?_; rotate_left; (focus (intro w'_ hs_; (repeat obtain ⟨_, hs_⟩ := hs_); go_simp; with_reducible rfl)); rotate_left; (focus (simp only [Act.put, List.setIfInBounds_toArray, List.set_cons_zero, List.set_cons_succ]; rfl)))
  (refine take_ (i := 5) (N := some 16) (v := ?_) (a' := ?_) #[true, true, true, true, false, true, false, false, true, false, false, false, false, false] rfl rfl (by kernel_rfl) (fun _ _ _ h => h) (Or.inl ⟨by rfl, ?_⟩) hHeld ?_ ?_; rotate_left; (focus (intro w'_ hs_; (repeat obtain ⟨_, hs_⟩ := hs_); go_simp; with_reducible rfl)); rotate_left; (focus (simp only [Act.put, List.setIfInBounds_toArray, List.set_cons_zero, List.set_cons_succ]; rfl)))
  (refine take_ (i := 9) (N := some 20) (v := ?_) (a' := ?_) #[true, true, true, true, false, true, false, false, true, true, false, false, false, false] rfl rfl (by kernel_rfl) (fun _ _ _ h => h) (Or.inl ⟨by rfl, ?_⟩) hHeld ?_ ?_; rotate_left; (focus (intro w'_ hs_; (repeat obtain ⟨_, hs_⟩ := hs_); go_simp; with_reducible rfl)); rotate_left; (focus (simp only [Act.put, List.setIfInBounds_toArray, List.set_cons_zero, List.set_cons_succ]; rfl)))
  (refine pure_ (i := 10) (N := some 21) (v := ?_) (a' := ?_) #[true, true, true, true, false, true, false, false, true, true, true, false, false, false] rfl rfl (by kernel_rfl) (fun _ _ _ h => h) (Or.inl ⟨by rfl, ?_⟩) ?_ ?_; rotate_left; (focus (intro w'_; go_simp; with_reducible rfl)); rotate_left; (focus (simp only [Act.put, List.setIfInBounds_toArray, List.set_cons_zero, List.set_cons_succ]; rfl)))
  refine join_ (σ := Option Addr × Nat × Nat) 4 #[true, true, true, true, true, true, true, false, true, true, true, false, false, false] (fun s => [(15, .slice s.1 g.f1.length s.2.1), (17, .slice (some ⟨s.2.2, 0, none⟩) 1 1)]) (fun s w' => RmW w gb_ gr gh gm #[.int .i64 g.f0, .slice A1 g.f1.length c1, .slice A2 g.f2.length c2, .slice A3 g.f3.length c3] g.f0 (.slice none 0 0) (.slice none 0 0) (.slice none 0 0) w' ∧ Kd.R kPt 65 w' W0.heap.size (fun _ => True) (.slice s.1 g.f1.length s.2.1) g.f1 ∧ w'.heap[s.2.2]? = some (.cells #[.int .u64 42405, .int .u64 42406] 65 (0, 0)) ∧ W0.heap.size ≤ w'.heap.size) ?hcont ?hways
  case hways =>
    intro hcont
    refine two_ (i := 4) (j := 6) #[true, true, true, true, true, true, false, false, true, true, true, false, false, false] #[true, true, true, true, false, true, true, false, true, true, true, false, false, false] rfl rfl rfl rfl (by kernel_rfl) (by decide) (by decide) (fun K hK => ?_) (fun K hK => ?_)
    · refine Kd.R_append_rows_step kPt (w0 := Wd) W0.heap.size (by rfl) (.tmp 12) (.tmp 14) 22 65 (.agg #[.int .u64 0, .int .u64 0]) 16 rfl Tryd.underlying22 infoPt rfl (by decide) (by omega) (.slice none 0 0) [] g.f1 _ _ _ (fun _ => True) (fun _ => False) rfl rfl ?aO ?aR (fun _ _ h => h) (fun _ h => h.elim) ?aF ?aB ?aS ?aL ?_
      case aO => exact Kd.R_nil _ _ _ _ _
      case aR => exact Kd.C_below H1.out RM0.out.B
      case aF => exact fun _ _ => trivial
      case aB => rw [← HSZ.out]; exact Below.refl _ _
      case aS => exact Nat.le_of_eq HSZ.out.symm
      case aL => show (0 + g.f1.length) * 16 ≤ _; omega
      intro v1 w1 ho hb hg hat
      rw [List.nil_append] at ho
      obtain ⟨A4, c4, e4⟩ := Kd.R_slice ho
      subst e4
      rw [← HSZ.out] at hb
      have rm1 := RM0.out.below hb
      have hz : W0.heap.size ≤ w1.heap.size := by rw [← HSZ.out]; exact hb.size
      refine hK.out _ _ ⟨(blk_cell rm1.o 1).trans rfl, (blk_cell rm1.b 1).trans rfl, (blk_cell rm1.m 0).trans rfl, (blk_cell rm1.m 1).trans rfl, trivial⟩ (fun hHeld2 => ?_)
      clear hK K
      (refine norm_ (a' := ?_) ?_ ?_; rotate_left; focus (show Act.put _ (some 15) _ = _; simp only [Act.put, List.setIfInBounds_toArray, List.set_cons_zero, List.set_cons_succ]; rfl))
      refine one_ (i := 6) (N := some 17) #[true, true, true, true, true, true, true, false, true, true, true, false, false, false] rfl rfl (by kernel_rfl) (by decide) (fun K hK => ?_)
      (refine value_ (w1 := ?_) (v := ?_) (by rfl) rfl ?_ ?_; rotate_left 2; (focus (go_simp; constructor <;> rfl)))
      have rm2 := rm1.below (below_alloc (Below.refl _ w1) (.cells #[.int .u64 42405, .int .u64 42406] 65))
      refine hK.out _ _ ⟨(blk_cell rm2.o 1).trans rfl, (blk_cell rm2.b 1).trans rfl, (blk_cell rm2.m 0).trans rfl, (blk_cell rm2.m 1).trans rfl, trivial⟩ (fun hHeld3 => ?_)
      (have hh_ := (hcont (A4, c4, w1.heap.size) _ ⟨rm2, Kd.R_alloc ho _, World.alloc_heap_new _ _, by simp; omega⟩); simp only [putAll, Act.put, List.setIfInBounds_toArray, List.set_cons_zero, List.set_cons_succ] at hh_ ⊢; exact hh_)
    · (refine value_ (w1 := ?_) (v := ?_) (by rfl) rfl ?_ ?_; rotate_left 2; (focus (go_simp; constructor <;> rfl)))
      have hbA : Below Wd.heap.size Wd (Wd.alloc (.cells #[.int .u64 42405, .int .u64 42406] 65)) := below_alloc (Below.refl _ _) _
      have rm1 := RM0.out.below hbA
      have k1 : (Wd.alloc (.cells #[.int .u64 42405, .int .u64 42406] 65)).heap[Wd.heap.size]? = some (.cells #[.int .u64 42405, .int .u64 42406] 65 (0, 0)) := World.alloc_heap_new _ _
      have hz : W0.heap.size ≤ (Wd.alloc (.cells #[.int .u64 42405, .int .u64 42406] 65)).heap.size := by rw [← HSZ.out]; simp
      refine hK.out _ _ ⟨(blk_cell rm1.o 1).trans rfl, (blk_cell rm1.b 1).trans rfl, (blk_cell rm1.m 0).trans rfl, (blk_cell rm1.m 1).trans rfl, trivial⟩ (fun hHeld2 => ?_)
      clear hK K
      (refine norm_ (a' := ?_) ?_ ?_; rotate_left; focus (show Act.put _ (some 17) _ = _; simp only [Act.put, List.setIfInBounds_toArray, List.set_cons_zero, List.set_cons_succ]; rfl))
      obtain ⟨We, hWe⟩ : ∃ We, We = Wd.alloc (.cells #[.int .u64 42405, .int .u64 42406] 65) := ⟨_, rfl⟩
      rw [← hWe] at rm1 k1 hz hHeld2 ⊢
      clear hWe hbA
      refine one_ (i := 4) (N := some 15) #[true, true, true, true, true, true, true, false, true, true, true, false, false, false] rfl rfl (by kernel_rfl) (by decide) (fun K hK => ?_)
      refine Kd.R_append_rows_step kPt (w0 := We) We.heap.size (by rfl) (.tmp 12) (.tmp 14) 22 65 (.agg #[.int .u64 0, .int .u64 0]) 16 rfl Tryd.underlying22 infoPt rfl (by decide) (by omega) (.slice none 0 0) [] g.f1 _ _ _ (fun _ => True) (fun _ => False) rfl rfl ?aO ?aR (fun _ _ h => h) (fun _ h => h.elim) ?aF ?aB ?aS ?aL ?_
      case aO => exact Kd.R_nil _ _ _ _ _
      case aR => exact Kd.C_below H1.out rm1.B
      case aF => exact fun _ _ => trivial
      case aB => exact Below.refl _ _
      case aS => exact Nat.le_refl _
      case aL => show (0 + g.f1.length) * 16 ≤ _; omega
      intro v1 w1 ho hb hg hat
      rw [List.nil_append] at ho
      obtain ⟨A4, c4, e4⟩ := Kd.R_slice ho
      subst e4
      have rm2 := rm1.below hb
      refine hK.out _ _ ⟨(blk_cell rm2.o 1).trans rfl, (blk_cell rm2.b 1).trans rfl, (blk_cell rm2.m 0).trans rfl, (blk_cell rm2.m 1).trans rfl, trivial⟩ (fun hHeld3 => ?_)
      (have hh_ := (hcont (A4, c4, Wd.heap.size) _ ⟨rm2, Kd.R_lower ho hz, blk_below k1 hb, Nat.le_trans hz hb.size⟩); simp only [putAll, Act.put, List.setIfInBounds_toArray, List.set_cons_zero, List.set_cons_succ] at hh_ ⊢; exact hh_)
  case hcont =>
    rintro ⟨A4, c4, gq⟩ w1 ⟨rm1, ho, kq, hz⟩
    refine norm_ (a' := ?_) ?_ ?_
    rotate_left
    · simp only [putAll, Act.put, List.setIfInBounds_toArray, List.set_cons_zero, List.set_cons_succ]; rfl
    dsimp only at ho kq
    refine one_ (i := 7) (N := some 18) #[true, true, true, true, true, true, true, true, true, true, true, false, false, false] rfl rfl (by kernel_rfl) (by decide) (fun K hK => ?_)
    have hord := HORD.out
    refine Kd.R_append_rows_step kPt (w0 := w1) W0.heap.size (by rfl) (.tmp 15) (.tmp 17) 22 65 (.agg #[.int .u64 0, .int .u64 0]) 16 rfl Tryd.underlying22 infoPt rfl (by decide) (by omega) (.slice A4 g.f1.length c4) g.f1 [mark] _ _ _ (fun _ => True) (fun _ => False) rfl rfl ?aO ?aR (fun _ _ h => h) (fun _ h => h.elim) ?aF ?aB ?aS ?aL ?_
    case aO => exact ho
    case aR => exact C_mark kq
    case aF => exact fun _ _ => trivial
    case aB => exact Below.refl _ _
    case aS => exact hz
    case aL => show (g.f1.length + 1) * 16 ≤ _; omega
    intro v2 w2 ho2 hb2 hg2 hat2
    obtain ⟨gl, cl, e2, hgl, hgl2, _⟩ := Kd.R_form ho2 (by simp)
    rw [List.length_append, List.length_singleton] at e2
    subst e2
    have hcl : g.f1.length + 1 ≤ cl := (R_readsN ho2).1
    have hcl2 : g.f1.length ≤ cl := by omega
    have hown : ∀ k, (Value.slice A4 g.f1.length c4).ownBlock = some k → W0.heap.size ≤ k := fun k e => Kd.R_base ho k e
    have rm2 := rm1.grown hg2 (rm1.B.trans (hb2.mono (by omega))) (fun e => by have := hown _ e.symm; omega) (fun e => by have := hown _ e.symm; omega) (fun e => by have := hown _ e.symm; omega) (fun e => by have := hown _ e.symm; omega)
    have hz2 : W0.heap.size ≤ w2.heap.size := Nat.le_trans hz hg2.size
    refine hK.out _ _ ⟨(blk_cell rm2.o 1).trans rfl, (blk_cell rm2.b 1).trans rfl, (blk_cell rm2.m 0).trans rfl, (blk_cell rm2.m 1).trans rfl, trivial⟩ (fun hHeld3 => ?_)
    clear hK K rm1 ho kq hat2 hg2 hb2 hown
    (refine norm_ (a' := ?_) ?_ ?_; rotate_left; focus (show Act.put _ (some 18) _ = _; simp only [Act.put, List.setIfInBounds_toArray, List.set_cons_zero, List.set_cons_succ]; rfl))
    (refine pure_ (i := 11) (N := some 22) (v := ?_) (a' := ?_) #[true, true, true, true, true, true, true, true, true, true, true, true, false, false] rfl rfl (by kernel_rfl) (fun _ _ _ h => h) (Or.inl ⟨by rfl, ?_⟩) ?_ ?_; rotate_left; (focus (intro w'_; go_simp; with_reducible rfl)); rotate_left; (focus (simp only [Act.put, List.setIfInBounds_toArray, List.set_cons_zero, List.set_cons_succ]; rfl)))
    (refine pure_ (i := 12) (N := some 23) (v := ?_) (a' := ?_) #[true, true, true, true, true, true, true, true, true, true, true, true, true, false] rfl rfl (by kernel_rfl) (fun _ _ _ h => h) (Or.inl ⟨by rfl, ?_⟩) ?_ ?_; rotate_left; (focus (intro w'_; go_simp; with_reducible rfl)); rotate_left; (focus (simp only [Act.put, List.setIfInBounds_toArray, List.set_cons_zero, List.set_cons_succ]; rfl)))
    refine last_ (i := 13) (N := none) #[true, true, true, true, true, true, true, true, true, true, true, true, true, true] rfl rfl (by kernel_rfl) (by decide) (fun K hK => ?_)
    have hs0 : w2.cell? ⟨gh, 1, none⟩ = some (.slice none 0 0) := (blk_cell rm2.o 1).trans rfl
    have hf0 := blk_frozen rm2.o 1
    refine skip_ (w1 := ?_) (by rfl) rfl ?_ ?_
    rotate_left
    · go_simp
      rfl
    refine hK.out _ _ ?_
    clear hK K
    refine done_ (by kernel_rfl) ?_
    obtain ⟨W1, hW1⟩ : ∃ W1, W1 = w2.setCell ⟨gh, 1, none⟩ (.slice (some ⟨gl, 0, none⟩) g.f1.length cl) := ⟨_, rfl⟩
    rw [← hW1]
    have hW1s : W1.heap.size = w2.heap.size := by rw [hW1]; simp
    have RM1 := Aside0.mk (show RmW w gb_ gr gh gm #[.int .i64 g.f0, .slice A1 g.f1.length c1, .slice A2 g.f2.length c2, .slice A3 g.f3.length c3] g.f0 (.slice (some ⟨gl, 0, none⟩) g.f1.length cl) (.slice none 0 0) (.slice none 0 0) W1 by rw [hW1]; exact rm2.set1 (by omega) (by omega) (by omega) (by omega) _)
    have HL1 := Aside0.mk (show Kd.R kPt 65 W1 W0.heap.size (fun k => k < W1.heap.size) (.slice (some ⟨gl, 0, none⟩) (g.f1.length + 1) cl) (g.f1 ++ [mark]) by
      have h := Kd.R_set ho2 rm2.o (by decide) 1 (.slice (some ⟨gl, 0, none⟩) g.f1.length cl)
      rw [← hW1] at h
      exact Kd.R_mono (Kd.R_bound h) (fun k h => h.2.2.1))
    have HZ1 := Aside0.mk (show W0.heap.size ≤ W1.heap.size by rw [hW1s]; exact hz2)
    have q2 : W1.cell? ⟨gb_, 2, none⟩ = some (.slice A2 g.f2.length c2) := (blk_cell RM1.out.b 2).trans rfl
    clear rm2 ho2 hgl hgl2 hz2 hs0 hf0 hW1 hW1s hHeld hHeld3 hz hord hcl hcl2 RM RM0
    go_wp2_with fail
    go_loopg [5] g.f2.length (fun kq i wr => ∃ (j : Nat) (v2 : Value), j + kq = g.f2.length ∧ i = .int .i64 (j : Int) ∧ Aside0 (W1.heap.size ≤ wr.heap.size) ∧ Aside0 (RmW w gb_ gr gh gm #[.int .i64 g.f0, .slice A1 g.f1.length c1, .slice A2 g.f2.length c2, .slice A3 g.f3.length c3] g.f0 (.slice (some ⟨gl, 0, none⟩) g.f1.length cl) v2 (.slice none 0 0) wr) ∧ Aside0 (Kd.R kPt 65 wr W0.heap.size (fun k => k < W1.heap.size) (.slice (some ⟨gl, 0, none⟩) (g.f1.length + 1) cl) (g.f1 ++ [mark])) ∧ Aside0 (Kd.R kRing 22 wr W0.heap.size (fun k => W1.heap.size ≤ k) v2 ((g.f2.take j).map fun r => (r, true))))
    case atStart => exact ⟨0, _, by omega, rfl, ⟨Nat.le_refl _⟩, RM1, HL1, ⟨Kd.R_nil _ _ _ _ _⟩⟩
    case round =>
      clear RM1 HL1 q2
      obtain ⟨j, v2, hj, rfl, HS, RM, HL, HR⟩ := hrel
      have q2 : wr.cell? ⟨gb_, 2, none⟩ = some (.slice A2 g.f2.length c2) := (blk_cell RM.out.b 2).trans rfl
      cases gk with
      | zero =>
        have hlt : ¬ ((j : Int) < (g.f2.length : Int)) := by omega
        obtain rfl : j = g.f2.length := by omega
        rw [List.take_length] at HR
        go_wp2_with fail
        refine start_ (n := 12) (S := fun w' => w'.cell? ⟨gh, 2, none⟩ = some v2 ∧ w'.cell? ⟨gb_, 2, none⟩ = some (.slice A2 g.f2.length c2) ∧ w'.cell? ⟨gm, 0, none⟩ = some (.int .u64 42405) ∧ w'.cell? ⟨gm, 1, none⟩ = some (.int .u64 42406) ∧ True) (ds := [11]) #[false, false, false, false, false, false, false, false, false, false, false, false] hmx rfl rfl ⟨(blk_cell (w := wr.drew) RM.out.o 2).trans rfl, (blk_cell (w := wr.drew) RM.out.b 2).trans rfl, (blk_cell (w := wr.drew) RM.out.m 0).trans rfl, (blk_cell (w := wr.drew) RM.out.m 1).trans rfl, trivial⟩ (fun hHeld => ?_)
        have RM0 := Aside0.mk (show RmW w gb_ gr gh gm _ g.f0 (.slice (some ⟨gl, 0, none⟩) g.f1.length cl) v2 (.slice none 0 0) wr.drew from RM.out.below (below_drew (Below.refl _ _)))
        have HL0 := Aside0.mk (Kd.R_drew HL.out)
        have HR0 := Aside0.mk (Kd.R_drew HR.out)
        have HS0 := Aside0.mk (show W1.heap.size ≤ wr.drew.heap.size from HS.out)
        clear RM HL HR HS q2
        generalize wr.drew = Wd at RM0 HL0 HR0 HS0 hHeld ⊢
        (refine pure_ (i := 0) (N := some 53) (v := ?_) (a' := ?_) #[true, false, false, false, false, false, false, false, false, false, false, false] rfl rfl (by kernel_rfl) (fun _ _ _ h => h) (Or.inl ⟨by rfl, ?_⟩) ?_ ?_; rotate_left; (focus (intro w'_; go_simp; with_reducible rfl)); rotate_left; (focus (simp only [Act.put, List.setIfInBounds_toArray, List.set_cons_zero, List.set_cons_succ]; rfl)))
        (refine pure_ (i := 6) (N := some 59) (v := ?_) (a' := ?_) #[true, false, false, false, false, false, true, false, false, false, false, false] rfl rfl (by kernel_rfl) (fun _ _ _ h => h) (Or.inl ⟨by rfl, ?_⟩) ?_ ?_; rotate_left; (focus (intro w'_; go_simp; with_reducible rfl)); rotate_left; (focus (simp only [Act.put, List.setIfInBounds_toArray, List.set_cons_zero, List.set_cons_succ]; rfl)))
        (refine take_ (i := 1) (N := some 54) (v := ?_) (a' := ?_) #[true, true, false, false, false, false, true, false, false, false, false, false] rfl rfl (by kernel_rfl) (fun _ _ _ h => h) (Or.inl ⟨by rfl, ?_⟩) hHeld ?_ ?_; rotate_left; (focus (intro w'_ hs_; (repeat obtain ⟨_, hs_⟩ := hs_); go_simp; with_reducible rfl)); rotate_left; (focus (simp only [Act.put, List.setIfInBounds_toArray, List.set_cons_zero, List.set_cons_succ]; rfl)))
        (refine take_ (i := 2) (N := some 55) (v := ?_) (a' := ?_) #[true, true, true, false, false, false, true, false, false, false, false, false] rfl rfl (by kernel_rfl) (fun _ _ _ h => h) (Or.inl ⟨by rfl, ?_⟩) hHeld ?_ ?_; rotate_left; (focus (intro w'_ hs_; (repeat obtain ⟨_, hs_⟩ := hs_); go_simp; with_reducible rfl)); rotate_left; (focus (simp only [Act.put, List.setIfInBounds_toArray, List.set_cons_zero, List.set_cons_succ]; rfl)))
        (refine take_ (i := 7) (N := some 60) (v := ?_) (a' := ?_) #[true, true, true, false, false, false, true, true, false, false, false, false] rfl rfl (by kernel_rfl) (fun _ _ _ h => h) (Or.inl ⟨by rfl, ?_⟩) hHeld ?_ ?_; rotate_left; (focus (intro w'_ hs_; (repeat obtain ⟨_, hs_⟩ := hs_); go_simp; with_reducible rfl)); rotate_left; (focus (simp only [Act.put, List.setIfInBounds_toArray, List.set_cons_zero, List.set_cons_succ]; rfl)))
        (refine pure_ (i := 8) (N := some 61) (v := ?_) (a' := ?_) #[true, true, true, false, false, false, true, true, true, false, false, false] rfl rfl (by kernel_rfl) (fun _ _ _ h => h) (Or.inl ⟨by rfl, ?_⟩) ?_ ?_; rotate_left; (focus (intro w'_; go_simp; with_reducible rfl)); rotate_left; (focus (simp only [Act.put, List.setIfInBounds_toArray, List.set_cons_zero, List.set_cons_succ]; rfl)))
        refine one_ (i := 3) (N := some 56) #[true, true, true, true, false, false, true, true, true, false, false, false] rfl rfl (by kernel_rfl) (by decide) (fun K hK => ?_)
        (refine value_ (w1 := ?_) (v := ?_) (by rfl) rfl ?_ ?_; rotate_left 2; (focus (go_simp; constructor <;> rfl)))
        have hb1 : Below Wd.heap.size Wd (Wd.alloc (.cells #[.int .u64 42405, .int .u64 42406] 65)) := below_alloc (Below.refl _ _) _
        have hm1 := R_mark1 Wd (Nat.le_refl Wd.heap.size) (fun k => Wd.heap.size ≤ k) (Nat.le_refl _)
        obtain ⟨gq3, hgq3⟩ : ∃ x, x = Wd.heap.size := ⟨_, rfl⟩
        obtain ⟨X1, hX1⟩ : ∃ x, x = Wd.alloc (.cells #[.int .u64 42405, .int .u64 42406] 65) := ⟨_, rfl⟩
        rw [← hX1] at hb1 hm1 ⊢
        have hm1' : Kd.R kPt 65 X1 Wd.heap.size (fun k => Wd.heap.size ≤ k) (.slice (some ⟨gq3, 0, none⟩) 1 1) [mark] := by rw [hgq3]; exact hm1
        rw [← hgq3]
        have hG3 := Aside0.mk hgq3
        clear hX1 hm1 hgq3
        have rm1 := RM0.out.below hb1
        refine hK.out _ _ ⟨(blk_cell rm1.o 2).trans rfl, (blk_cell rm1.b 2).trans rfl, (blk_cell rm1.m 0).trans rfl, (blk_cell rm1.m 1).trans rfl, trivial⟩ (fun hHeld2 => ?_)
        clear hK K
        (refine norm_ (a' := ?_) ?_ ?_; rotate_left; focus (show Act.put _ (some 56) _ = _; simp only [Act.put, List.setIfInBounds_toArray, List.set_cons_zero, List.set_cons_succ]; rfl))
        refine one_ (i := 4) (N := some 57) #[true, true, true, true, true, false, true, true, true, false, false, false] rfl rfl (by kernel_rfl) (by decide) (fun K hK => ?_)
        (refine value_ (w1 := ?_) (v := ?_) (by rfl) rfl ?_ ?_; rotate_left 2; (focus (go_simp; constructor <;> rfl)))
        have rm2 := rm1.below (below_alloc (Below.refl _ X1) (.cells #[.slice (some ⟨gq3, 0, none⟩) 1 1] 22))
        refine hK.out _ _ ⟨(blk_cell rm2.o 2).trans rfl, (blk_cell rm2.b 2).trans rfl, (blk_cell rm2.m 0).trans rfl, (blk_cell rm2.m 1).trans rfl, trivial⟩ (fun hHeld3 => ?_)
        clear hK K rm2
        (refine norm_ (a' := ?_) ?_ ?_; rotate_left; focus (show Act.put _ (some 57) _ = _; simp only [Act.put, List.setIfInBounds_toArray, List.set_cons_zero, List.set_cons_succ]; rfl))
        refine one_ (i := 5) (N := some 58) #[true, true, true, true, true, true, true, true, true, false, false, false] rfl rfl (by kernel_rfl) (by decide) (fun K hK => ?_)
        have hr4 := Kd.R_below HR0.out hb1
        have hl4 := Kd.R_below HL0.out hb1
        have hvlt := Kd.R_lt HR0.out
        have hord := HORD.out
        have hz1 := HZ1.out
        have hs0 := HS0.out
        have hs4 : Wd.heap.size ≤ X1.heap.size := hb1.size
        have hg3 := hG3.out
        refine Kd.R_append_step kRing (w0 := X1) W0.heap.size (by rfl) (.tmp 54) (.tmp 57) 23 22 (.slice none 0 0) 24 rfl Tryd.underlying23 infoPts rfl (by decide) (by omega) v2 (g.f2.map fun r => (r, true)) ([mark], false) [.slice (some ⟨gq3, 0, none⟩) 1 1] (fun k => W1.heap.size ≤ k) (fun k => Wd.heap.size ≤ k) rfl rfl ?aP ?aK ?aF ?aO ?aB ?aS ?aL ?_
        case aP => exact ⟨_, rfl, Kd.R_lower hm1' (by omega)⟩
        case aK => exact fun k h => ⟨by omega, fun e => by have := hvlt k e.symm; omega⟩
        case aF => exact fun k h => by omega
        case aO => exact hr4
        case aB => exact Below.refl _ _
        case aS => omega
        case aL => rw [List.length_map]; omega
        intro v7 X5 ho7 hb7 hg7 hat7
        obtain ⟨g2, cl2, e7, hg2l, hg2b, _⟩ := Kd.R_form ho7 (by simp)
        rw [List.length_append, List.length_map, List.length_singleton] at e7
        subst e7
        have hcl2 : g.f2.length ≤ cl2 := by have := (R_readsN ho7).1; omega
        have hown : ∀ k, v2.ownBlock = some k → W1.heap.size ≤ k := fun k e => hr4.1 k e
        have rm7 := rm1.grown hg7 (rm1.B.trans (hb7.mono (by omega))) (fun e => by have := hown _ e.symm; omega) (fun e => by have := hown _ e.symm; omega) (fun e => by have := hown _ e.symm; omega) (fun e => by have := hown _ e.symm; omega)
        have hl7 := Kd.R_grown hl4 hg7 (fun k h e => by have := hown _ e.symm; omega)
        have hs7 : Wd.heap.size ≤ X5.heap.size := Nat.le_trans hs4 hg7.size
        refine hK.out _ _ ⟨(blk_cell rm7.o 2).trans rfl, (blk_cell rm7.b 2).trans rfl, (blk_cell rm7.m 0).trans rfl, (blk_cell rm7.m 1).trans rfl, trivial⟩ (fun hHeld5 => ?_)
        clear hK K hr4 hl4 hg7 hat7 hb7 rm1 hg3
        (refine norm_ (a' := ?_) ?_ ?_; rotate_left; focus (show Act.put _ (some 58) _ = _; simp only [Act.put, List.setIfInBounds_toArray, List.set_cons_zero, List.set_cons_succ]; rfl))
        (refine pure_ (i := 9) (N := some 62) (v := ?_) (a' := ?_) #[true, true, true, true, true, true, true, true, true, true, false, false] rfl rfl (by kernel_rfl) (fun _ _ _ h => h) (Or.inl ⟨by rfl, ?_⟩) ?_ ?_; rotate_left; (focus (intro w'_; go_simp; with_reducible rfl)); rotate_left; (focus (simp only [Act.put, List.setIfInBounds_toArray, List.set_cons_zero, List.set_cons_succ]; rfl)))
        (refine pure_ (i := 10) (N := some 63) (v := ?_) (a' := ?_) #[true, true, true, true, true, true, true, true, true, true, true, false] rfl rfl (by kernel_rfl) (fun _ _ _ h => h) (Or.inl ⟨by rfl, ?_⟩) ?_ ?_; rotate_left; (focus (intro w'_; go_simp; with_reducible rfl)); rotate_left; (focus (simp only [Act.put, List.setIfInBounds_toArray, List.set_cons_zero, List.set_cons_succ]; rfl)))
        refine last_ (i := 11) (N := none) #[true, true, true, true, true, true, true, true, true, true, true, true] rfl rfl (by kernel_rfl) (by decide) (fun K hK => ?_)
        have hq0 : X5.cell? ⟨gh, 2, none⟩ = some v2 := (blk_cell rm7.o 2).trans rfl
        have hf0 := blk_frozen rm7.o 2
        refine skip_ (w1 := ?_) (by rfl) rfl ?_ ?_
        rotate_left
        · go_simp
          rfl
        refine hK.out _ _ ?_
        clear hK K
        refine done_ (by kernel_rfl) ?_
        have rm8 := rm7.set2 (by omega) (by omega) (by omega) (by omega) (.slice (some ⟨g2, 0, none⟩) g.f2.length cl2)
        have hl8 := Kd.R_set hl7 rm7.o (by decide) 2 (.slice (some ⟨g2, 0, none⟩) g.f2.length cl2)
        have hr8 := Kd.R_set ho7 rm7.o (by decide) 2 (.slice (some ⟨g2, 0, none⟩) g.f2.length cl2)
        have hs8 : W1.heap.size ≤ (X5.setCell ⟨gh, 2, none⟩ (.slice (some ⟨g2, 0, none⟩) g.f2.length cl2)).heap.size := by simp; omega
        obtain ⟨W2, hW2⟩ : ∃ x, x = X5.setCell ⟨gh, 2, none⟩ (.slice (some ⟨g2, 0, none⟩) g.f2.length cl2) := ⟨_, rfl⟩
        rw [← hW2] at rm8 hl8 hr8 hs8 ⊢
        have RM2 := Aside0.mk rm8
        have HL2 := Aside0.mk hl8
        have HR2 := Aside0.mk (show Kd.R kRing 22 W2 W0.heap.size (fun k => W1.heap.size ≤ k ∧ k < W2.heap.size) (.slice (some ⟨g2, 0, none⟩) (g.f2.length + 1) cl2) (ringsOf g) from Kd.R_mono (Kd.R_bound hr8) (fun k h => ⟨h.1, h.2.2.1⟩))
        have HS2 := Aside0.mk hs8
        have q3 : W2.cell? ⟨gb_, 3, none⟩ = some (.slice A3 g.f3.length c3) := (blk_cell RM2.out.b 3).trans rfl
        have hb3 : g.f3.length ≤ 1073741824 := by have := bulks_len g.f3; omega
        clear hW2 rm8 hl8 hr8 hs8 rm7 hl7 ho7 hq0 hf0 hord hs0 hs4 hs7 hz1 hHeld hHeld2 hHeld3 hHeld5 hcl2 hg2l hg2b hm1' hb1 hvlt hown
        go_wp2_with fail
        go_loopg [6] g.f3.length (fun kq i wr => ∃ (j : Nat) (v3 : Value), j + kq = g.f3.length ∧ i = .int .i64 (j : Int) ∧ Aside0 (W2.heap.size ≤ wr.heap.size) ∧ Aside0 (RmW w gb_ gr gh gm #[.int .i64 g.f0, .slice A1 g.f1.length c1, .slice A2 g.f2.length c2, .slice A3 g.f3.length c3] g.f0 (.slice (some ⟨gl, 0, none⟩) g.f1.length cl) (.slice (some ⟨g2, 0, none⟩) g.f2.length cl2) v3 wr) ∧ Aside0 (Kd.R kPt 65 wr W0.heap.size (fun k => k < W1.heap.size) (.slice (some ⟨gl, 0, none⟩) (g.f1.length + 1) cl) (g.f1 ++ [mark])) ∧ Aside0 (Kd.R kRing 22 wr W0.heap.size (fun k => W1.heap.size ≤ k ∧ k < W2.heap.size) (.slice (some ⟨g2, 0, none⟩) (g.f2.length + 1) cl2) (ringsOf g)) ∧ Aside0 (Kd.R (kPart (kRm n)) 26 wr W0.heap.size (fun k => W2.heap.size ≤ k) v3 ((g.f3.take j).map some)))
        case atStart => exact ⟨0, _, by omega, rfl, ⟨Nat.le_refl _⟩, RM2, HL2, HR2, ⟨Kd.R_nil _ _ _ _ _⟩⟩
        case round =>
          clear RM2 HL2 HR2 q3 hlt hj
          obtain ⟨j, v3, hj, rfl, HS, RM, HL, HR, HP⟩ := hrel
          have q3 : wr.cell? ⟨gb_, 3, none⟩ = some (.slice A3 g.f3.length c3) := (blk_cell RM.out.b 3).trans rfl
          cases gk with
          | zero =>
            have hlt : ¬ ((j : Int) < (g.f3.length : Int)) := by omega
            obtain rfl : j = g.f3.length := by omega
            rw [List.take_length] at HP
            go_wp2_with fail
            refine start_ (n := 11) (S := fun w' => w'.cell? ⟨gh, 3, none⟩ = some v3 ∧ w'.cell? ⟨gb_, 3, none⟩ = some (.slice A3 g.f3.length c3) ∧ True) (ds := [10]) #[false, false, false, false, false, false, false, false, false, false, false] hmx rfl rfl ⟨(blk_cell (w := wr.drew) RM.out.o 3).trans rfl, (blk_cell (w := wr.drew) RM.out.b 3).trans rfl, trivial⟩ (fun hHeld => ?_)
            have RM0 := Aside0.mk (show RmW w gb_ gr gh gm _ g.f0 (.slice (some ⟨gl, 0, none⟩) g.f1.length cl) (.slice (some ⟨g2, 0, none⟩) g.f2.length cl2) v3 wr.drew from RM.out.below (below_drew (Below.refl _ _)))
            have HL0 := Aside0.mk (Kd.R_drew HL.out)
            have HR0 := Aside0.mk (Kd.R_drew HR.out)
            have HP0 := Aside0.mk (Kd.R_drew HP.out)
            have HS0 := Aside0.mk (show W2.heap.size ≤ wr.drew.heap.size from HS.out)
            clear RM HL HR HP HS q3
            generalize wr.drew = Wd at RM0 HL0 HR0 HP0 HS0 hHeld ⊢
            (refine pure_ (i := 0) (N := some 82) (v := ?_) (a' := ?_) #[true, false, false, false, false, false, false, false, false, false, false] rfl rfl (by kernel_rfl) (fun _ _ _ h => h) (Or.inl ⟨by rfl, ?_⟩) ?_ ?_; rotate_left; (focus (intro w'_; go_simp; with_reducible rfl)); rotate_left; (focus (simp only [Act.put, List.setIfInBounds_toArray, List.set_cons_zero, List.set_cons_succ]; rfl)))
            (refine pure_ (i := 2) (N := some 84) (v := ?_) (a' := ?_) #[true, false, true, false, false, false, false, false, false, false, false] rfl rfl (by kernel_rfl) (fun _ _ _ h => h) (Or.inl ⟨by rfl, ?_⟩) ?_ ?_; rotate_left; (focus (intro w'_; go_simp; with_reducible rfl)); rotate_left; (focus (simp only [Act.put, List.setIfInBounds_toArray, List.set_cons_zero, List.set_cons_succ]; rfl)))
            (refine pure_ (i := 5) (N := some 87) (v := ?_) (a' := ?_) #[true, false, true, false, false, true, false, false, false, false, false] rfl rfl (by kernel_rfl) (fun _ _ _ h => h) (Or.inl ⟨by rfl, ?_⟩) ?_ ?_; rotate_left; (focus (intro w'_; go_simp; with_reducible rfl)); rotate_left; (focus (simp only [Act.put, List.setIfInBounds_toArray, List.set_cons_zero, List.set_cons_succ]; rfl)))
            (refine take_ (i := 1) (N := some 83) (v := ?_) (a' := ?_) #[true, true, true, false, false, true, false, false, false, false, false] rfl rfl (by kernel_rfl) (fun _ _ _ h => h) (Or.inl ⟨by rfl, ?_⟩) hHeld ?_ ?_; rotate_left; (focus (intro w'_ hs_; (repeat obtain ⟨_, hs_⟩ := hs_); go_simp; with_reducible rfl)); rotate_left; (focus (simp only [Act.put, List.setIfInBounds_toArray, List.set_cons_zero, List.set_cons_succ]; rfl)))
            (refine take_ (i := 6) (N := some 88) (v := ?_) (a' := ?_) #[true, true, true, false, false, true, true, false, false, false, false] rfl rfl (by kernel_rfl) (fun _ _ _ h => h) (Or.inl ⟨by rfl, ?_⟩) hHeld ?_ ?_; rotate_left; (focus (intro w'_ hs_; (repeat obtain ⟨_, hs_⟩ := hs_); go_simp; with_reducible rfl)); rotate_left; (focus (simp only [Act.put, List.setIfInBounds_toArray, List.set_cons_zero, List.set_cons_succ]; rfl)))
            (refine pure_ (i := 7) (N := some 89) (v := ?_) (a' := ?_) #[true, true, true, false, false, true, true, true, false, false, false] rfl rfl (by kernel_rfl) (fun _ _ _ h => h) (Or.inl ⟨by rfl, ?_⟩) ?_ ?_; rotate_left; (focus (intro w'_; go_simp; with_reducible rfl)); rotate_left; (focus (simp only [Act.put, List.setIfInBounds_toArray, List.set_cons_zero, List.set_cons_succ]; rfl)))
            refine one_ (i := 3) (N := some 85) #[true, true, true, true, false, true, true, true, false, false, false] rfl rfl (by kernel_rfl) (by decide) (fun K hK => ?_)
            (refine value_ (w1 := ?_) (v := ?_) (by rfl) rfl ?_ ?_; rotate_left 2; (focus (go_simp; constructor <;> rfl)))
            have rm2 := RM0.out.below (below_alloc (Below.refl _ Wd) (.cells #[.int .i64 77, .slice none 0 0, .slice none 0 0, .slice none 0 0] 26))
            refine hK.out _ _ ⟨(blk_cell rm2.o 3).trans rfl, (blk_cell rm2.b 3).trans rfl, trivial⟩ (fun hHeld3 => ?_)
            clear hK K rm2
            (refine norm_ (a' := ?_) ?_ ?_; rotate_left; focus (show Act.put _ (some 85) _ = _; simp only [Act.put, List.setIfInBounds_toArray, List.set_cons_zero, List.set_cons_succ]; rfl))
            refine one_ (i := 4) (N := some 86) #[true, true, true, true, true, true, true, true, false, false, false] rfl rfl (by kernel_rfl) (by decide) (fun K hK => ?_)
            have hvlt := Kd.R_lt HP0.out
            have hord := HORD.out
            have hz1 := HZ1.out
            have hz2 := HS2.out
            have hs0 := HS0.out
            refine Kd.R_append_step (kPart (kRm n)) (w0 := Wd) W0.heap.size (by rfl) (.tmp 83) (.tmp 85) 24 26 (.agg #[.int .i64 0, .slice none 0 0, .slice none 0 0, .slice none 0 0]) 80 rfl Tryd.underlying24 (show _ = some (some _, (kRm n).sz, 80) by rw [kRm_sz]; exact infoGe) (show _ = (kRm n).sz by rw [kRm_sz]; rfl) (show 0 < (kRm n).sz by rw [kRm_sz]; decide) (by omega) v3 (g.f3.map some) none [.int .i64 77, .slice none 0 0, .slice none 0 0, .slice none 0 0] (fun k => W2.heap.size ≤ k) (fun _ => False) rfl rfl ?aP ?aK ?aF ?aO ?aB ?aS ?aL ?_
            case aP => exact ⟨by show _ = (kRm n).sz; rw [kRm_sz]; rfl, by intro u hu; simp only [List.mem_cons, List.not_mem_nil, or_false] at hu; rcases hu with rfl | rfl | rfl | rfl <;> rfl, rfl⟩
            case aK => exact fun k h => h.elim
            case aF => exact fun k h => by omega
            case aO => exact HP0.out
            case aB => exact Below.refl _ _
            case aS => omega
            case aL => rw [List.length_map]; omega
            intro v7 X5 ho7 hb7 hg7 hat7
            obtain ⟨g3, cl3, e7, hg3l, hg3b, _⟩ := Kd.R_form ho7 (by simp)
            rw [List.length_append, List.length_map, List.length_singleton] at e7
            subst e7
            have hcl3 : g.f3.length ≤ cl3 := by have := (R_readsN ho7).1; omega
            have hown : ∀ k, v3.ownBlock = some k → W2.heap.size ≤ k := fun k e => HP0.out.1 k e
            have rm7 := RM0.out.grown hg7 (RM0.out.B.trans (hb7.mono (by omega))) (fun e => by have := hown _ e.symm; omega) (fun e => by have := hown _ e.symm; omega) (fun e => by have := hown _ e.symm; omega) (fun e => by have := hown _ e.symm; omega)
            have hl7 := Kd.R_grown HL0.out hg7 (fun k h e => by have := hown _ e.symm; omega)
            have hr7 := Kd.R_grown HR0.out hg7 (fun k h e => by have := hown _ e.symm; omega)
            have hs7 : Wd.heap.size ≤ X5.heap.size := hg7.size
            refine hK.out _ _ ⟨(blk_cell rm7.o 3).trans rfl, (blk_cell rm7.b 3).trans rfl, trivial⟩ (fun hHeld5 => ?_)
            clear hK K hg7 hat7 hb7
            (refine norm_ (a' := ?_) ?_ ?_; rotate_left; focus (show Act.put _ (some 86) _ = _; simp only [Act.put, List.setIfInBounds_toArray, List.set_cons_zero, List.set_cons_succ]; rfl))
            (refine pure_ (i := 8) (N := some 90) (v := ?_) (a' := ?_) #[true, true, true, true, true, true, true, true, true, false, false] rfl rfl (by kernel_rfl) (fun _ _ _ h => h) (Or.inl ⟨by rfl, ?_⟩) ?_ ?_; rotate_left; (focus (intro w'_; go_simp; with_reducible rfl)); rotate_left; (focus (simp only [Act.put, List.setIfInBounds_toArray, List.set_cons_zero, List.set_cons_succ]; rfl)))
            (refine pure_ (i := 9) (N := some 91) (v := ?_) (a' := ?_) #[true, true, true, true, true, true, true, true, true, true, false] rfl rfl (by kernel_rfl) (fun _ _ _ h => h) (Or.inl ⟨by rfl, ?_⟩) ?_ ?_; rotate_left; (focus (intro w'_; go_simp; with_reducible rfl)); rotate_left; (focus (simp only [Act.put, List.setIfInBounds_toArray, List.set_cons_zero, List.set_cons_succ]; rfl)))
            refine last_ (i := 10) (N := none) #[true, true, true, true, true, true, true, true, true, true, true] rfl rfl (by kernel_rfl) (by decide) (fun K hK => ?_)
            have hq0 : X5.cell? ⟨gh, 3, none⟩ = some v3 := (blk_cell rm7.o 3).trans rfl
            have hf0 := blk_frozen rm7.o 3
            refine skip_ (w1 := ?_) (by rfl) rfl ?_ ?_
            rotate_left
            · go_simp
              rfl
            refine hK.out _ _ ?_
            clear hK K
            refine done_ (by kernel_rfl) ?_
            have rm8 := rm7.set3 (by omega) (by omega) (by omega) (by omega) (.slice (some ⟨g3, 0, none⟩) g.f3.length cl3)
            have hl8 := Kd.R_set hl7 rm7.o (by decide) 3 (.slice (some ⟨g3, 0, none⟩) g.f3.length cl3)
            have hr8 := Kd.R_set hr7 rm7.o (by decide) 3 (.slice (some ⟨g3, 0, none⟩) g.f3.length cl3)
            have hp8 := Kd.R_far (p := ⟨gh, 3, none⟩) ho7 (fun k h => by show k ≠ gh; omega) (.slice (some ⟨g3, 0, none⟩) g.f3.length cl3)
            obtain ⟨X6, hX6⟩ : ∃ x, x = X5.setCell ⟨gh, 3, none⟩ (.slice (some ⟨g3, 0, none⟩) g.f3.length cl3) := ⟨_, rfl⟩
            rw [← hX6] at rm8 hl8 hr8 hp8 ⊢
            have RM8 := Aside0.mk rm8
            have HL8 := Aside0.mk hl8
            have HR8 := Aside0.mk hr8
            have HP8 := Aside0.mk hp8
            have s0 : X6.cell? ⟨gh, 0, none⟩ = some (.int .i64 g.f0) := (blk_cell rm8.o 0).trans rfl
            have s1 : X6.cell? ⟨gh, 1, none⟩ = some (.slice (some ⟨gl, 0, none⟩) g.f1.length cl) := (blk_cell rm8.o 1).trans rfl
            have s2 : X6.cell? ⟨gh, 2, none⟩ = some (.slice (some ⟨g2, 0, none⟩) g.f2.length cl2) := (blk_cell rm8.o 2).trans rfl
            have s3 : X6.cell? ⟨gh, 3, none⟩ = some (.slice (some ⟨g3, 0, none⟩) g.f3.length cl3) := (blk_cell rm8.o 3).trans rfl
            have r0 : X6.cell? ⟨gr, 0, none⟩ = some (.int .i64 0) := (blk_cell rm8.r 0).trans rfl
            have r1 : X6.cell? ⟨gr, 1, none⟩ = some (.slice none 0 0) := (blk_cell rm8.r 1).trans rfl
            have r2 : X6.cell? ⟨gr, 2, none⟩ = some (.slice none 0 0) := (blk_cell rm8.r 2).trans rfl
            have r3 : X6.cell? ⟨gr, 3, none⟩ = some (.slice none 0 0) := (blk_cell rm8.r 3).trans rfl
            have t0 := blk_frozen rm8.r 0
            have t1 := blk_frozen rm8.r 1
            have t2 := blk_frozen rm8.r 2
            have t3 := blk_frozen rm8.r 3
            have HFIN := Aside0.mk (show w.heap.size ≤ gr ∧ gr < W0.heap.size ∧ W0.heap.size ≤ W1.heap.size ∧ W1.heap.size ≤ W2.heap.size by omega)
            clear hX6 rm8 hl8 hr8 hp8 rm7 hl7 hr7 ho7 hq0 hf0 hord hs0 hs7 hz1 hz2 hHeld hHeld3 hHeld5 hcl3 hg3l hg3b hvlt hown
            go_wp2_with fail
            have bk := blk_set (blk_set (blk_set (blk_set RM8.out.r 0 (.int .i64 g.f0)) 1 (.slice (some ⟨gl, 0, none⟩) g.f1.length cl)) 2 (.slice (some ⟨g2, 0, none⟩) g.f2.length cl2)) 3 (.slice (some ⟨g3, 0, none⟩) g.f3.length cl3)
            refine bodyPost_ret (results_geom (a := 2) (by rfl) _ _ (by rfl) (by simpa using bk)) rfl ?_
            obtain ⟨hf1, hf2, hf3, hf4⟩ := HFIN.out
            have hll := Kd.R_far (p := ⟨gr, 3, none⟩) (Kd.R_far (p := ⟨gr, 2, none⟩) (Kd.R_far (p := ⟨gr, 1, none⟩) (Kd.R_far (p := ⟨gr, 0, none⟩) (Kd.R_types HL8.out RM8.out.r (by decide)) (fun _ h => h.2) (.int .i64 g.f0)) (fun _ h => h.2) (.slice (some ⟨gl, 0, none⟩) g.f1.length cl)) (fun _ h => h.2) (.slice (some ⟨g2, 0, none⟩) g.f2.length cl2)) (fun _ h => h.2) (.slice (some ⟨g3, 0, none⟩) g.f3.length cl3)
            have hrr := Kd.R_far (p := ⟨gr, 3, none⟩) (Kd.R_far (p := ⟨gr, 2, none⟩) (Kd.R_far (p := ⟨gr, 1, none⟩) (Kd.R_far (p := ⟨gr, 0, none⟩) (Kd.R_types HR8.out RM8.out.r (by decide)) (fun _ h => h.2) (.int .i64 g.f0)) (fun _ h => h.2) (.slice (some ⟨gl, 0, none⟩) g.f1.length cl)) (fun _ h => h.2) (.slice (some ⟨g2, 0, none⟩) g.f2.length cl2)) (fun _ h => h.2) (.slice (some ⟨g3, 0, none⟩) g.f3.length cl3)
            have hpp := Kd.R_far (p := ⟨gr, 3, none⟩) (Kd.R_far (p := ⟨gr, 2, none⟩) (Kd.R_far (p := ⟨gr, 1, none⟩) (Kd.R_far (p := ⟨gr, 0, none⟩) HP8.out (fun k h => by show k ≠ gr; omega) (.int .i64 g.f0)) (fun k h => by show k ≠ gr; omega) (.slice (some ⟨gl, 0, none⟩) g.f1.length cl)) (fun k h => by show k ≠ gr; omega) (.slice (some ⟨g2, 0, none⟩) g.f2.length cl2)) (fun k h => by show k ≠ gr; omega) (.slice (some ⟨g3, 0, none⟩) g.f3.length cl3)
            refine ⟨[.int .i64 g.f0, .slice (some ⟨gl, 0, none⟩) g.f1.length cl, .slice (some ⟨g2, 0, none⟩) g.f2.length cl2, .slice (some ⟨g3, 0, none⟩) g.f3.length cl3], rfl, ?_, (((RM8.out.B.setCell (p := ⟨gr, 0, none⟩) hf1 _).setCell (p := ⟨gr, 1, none⟩) hf1 _).setCell (p := ⟨gr, 2, none⟩) hf1 _).setCell (p := ⟨gr, 3, none⟩) hf1 _⟩
            rw [kRm_M]
            exact ⟨_, _, _, _, _, _, rfl, Kd.R_mono (Kd.R_lower hll (by omega)) (fun _ _ => trivial), Kd.R_mono (Kd.R_lower hrr (by omega)) (fun _ _ => trivial), Kd.R_mono (Kd.R_lower hpp (by omega)) (fun _ _ => trivial)⟩
          | succ kq =>
            have hlt : j < g.f3.length := by omega
            obtain ⟨a3, B1, d1, B2, d2, B3, d3, ea, p0, p1, p2, p3, m1, x1, m2, x2, m3, x3⟩ := at_Ge H3.out j (by omega) (by omega)
            subst ea
            rw [rd_Ge_at _ _ hlt] at p0 p1 p2 p3 x1 x2 x3 m1 m2 m3
            rw [Int.toNat_natCast] at p0 p1 p2 p3
            have Q0 := Aside0.mk p0
            have Q1 := Aside0.mk p1
            have Q2 := Aside0.mk p2
            have Q3 := Aside0.mk p3
            have HG := Aside0.mk (show IsG w (.agg #[.int .i64 (g.f3[j]).f0, .slice B1 (g.f3[j]).f1.length d1, .slice B2 (g.f3[j]).f2.length d2, .slice B3 (g.f3[j]).f3.length d3]) g.f3[j] from ⟨B1, d1, B2, d2, B3, d3, rfl, m1, x1, m2, x2, m3, x3⟩)
            have hpb : (g.f3[j]).bulk ≤ n := by have := bulks_mem (List.getElem_mem hlt); omega
            clear p0 p1 p2 p3 x1 x2 x3 m1 m2 m3
            go_wp2_with fail
            refine start_ (n := 12) (S := (fun w' => w'.cell? ⟨gh, 3, none⟩ = some v3 ∧ w'.cell? ⟨gb_, 3, none⟩ = some (.slice (some a3) g.f3.length c3) ∧ w'.cell? (a3.add (j * 4)) = some (.int .i64 (g.f3[j]).f0) ∧ w'.cell? ⟨(a3.add (j * 4)).block, (a3.add (j * 4)).off + 1, none⟩ = some (.slice B1 (g.f3[j]).f1.length d1) ∧ w'.cell? ⟨(a3.add (j * 4)).block, (a3.add (j * 4)).off + 2, none⟩ = some (.slice B2 (g.f3[j]).f2.length d2) ∧ w'.cell? ⟨(a3.add (j * 4)).block, (a3.add (j * 4)).off + 3, none⟩ = some (.slice B3 (g.f3[j]).f3.length d3) ∧ True)) (ds := [11]) #[false, false, false, false, false, false, false, false, false, false, false, false] hmx rfl rfl ⟨(blk_cell (w := wr.drew) RM.out.o 3).trans rfl, (blk_cell (w := wr.drew) RM.out.b 3).trans rfl, cell_below (below_drew RM.out.B) Q0.out, cell_below (below_drew RM.out.B) Q1.out, cell_below (below_drew RM.out.B) Q2.out, cell_below (below_drew RM.out.B) Q3.out, trivial⟩ (fun hHeld => ?_)
            have RM0 := Aside0.mk (show RmW w gb_ gr gh gm _ g.f0 (.slice (some ⟨gl, 0, none⟩) g.f1.length cl) (.slice (some ⟨g2, 0, none⟩) g.f2.length cl2) v3 wr.drew from RM.out.below (below_drew (Below.refl _ _)))
            have HL0 := Aside0.mk (Kd.R_drew HL.out)
            have HR0 := Aside0.mk (Kd.R_drew HR.out)
            have HP0 := Aside0.mk (Kd.R_drew HP.out)
            have HS0 := Aside0.mk (show W2.heap.size ≤ wr.drew.heap.size from HS.out)
            clear RM HL HR HP HS q3
            generalize wr.drew = Wd at RM0 HL0 HR0 HP0 HS0 hHeld ⊢
            have i0 : (0 : Int) ≤ (j : Int) := by omega
            have i1 : (j : Int) < (g.f3.length : Int) := by omega
            (refine pure_ (i := 0) (N := some 71) (v := ?_) (a' := ?_) #[true, false, false, false, false, false, false, false, false, false, false, false] rfl rfl (by kernel_rfl) (fun _ _ _ h => h) (Or.inl ⟨by rfl, ?_⟩) ?_ ?_; rotate_left; (focus (intro w'_; go_simp; with_reducible rfl)); rotate_left; (focus (simp only [Act.put, List.setIfInBounds_toArray, List.set_cons_zero, List.set_cons_succ]; rfl)))
            (refine pure_ (i := 2) (N := some 73) (v := ?_) (a' := ?_) #[true, false, true, false, false, false, false, false, false, false, false, false] rfl rfl (by kernel_rfl) (fun _ _ _ h => h) (Or.inl ⟨by rfl, ?_⟩) ?_ ?_; rotate_left; (focus (intro w'_; go_simp; with_reducible rfl)); rotate_left; (focus (simp only [Act.put, List.setIfInBounds_toArray, List.set_cons_zero, List.set_cons_succ]; rfl)))
            (refine pure_ (i := 4) (N := some 75) (v := ?_) (a' := ?_) #[true, false, true, false, true, false, false, false, false, false, false, false] rfl rfl (by kernel_rfl) (fun _ _ _ h => h) (Or.inl ⟨by rfl, ?_⟩) ?_ ?_; rotate_left; (focus (intro w'_; go_simp; with_reducible rfl)); rotate_left; (focus (simp only [Act.put, List.setIfInBounds_toArray, List.set_cons_zero, List.set_cons_succ]; rfl)))
            (refine take_ (i := 1) (N := some 72) (v := ?_) (a' := ?_) #[true, true, true, false, true, false, false, false, false, false, false, false] rfl rfl (by kernel_rfl) (fun _ _ _ h => h) (Or.inl ⟨by rfl, ?_⟩) hHeld ?_ ?_; rotate_left; (focus (intro w'_ hs_; (repeat obtain ⟨_, hs_⟩ := hs_); go_simp; with_reducible rfl)); rotate_left; (focus (simp only [Act.put, List.setIfInBounds_toArray, List.set_cons_zero, List.set_cons_succ]; rfl)))
            (refine take_ (i := 3) (N := some 74) (v := ?_) (a' := ?_) #[true, true, true, true, true, false, false, false, false, false, false, false] rfl rfl (by kernel_rfl) (fun _ _ _ h => h) (Or.inl ⟨by rfl, ?_⟩) hHeld ?_ ?_; rotate_left; (focus (intro w'_ hs_; (repeat obtain ⟨_, hs_⟩ := hs_); go_simp; with_reducible rfl)); rotate_left; (focus (simp only [Act.put, List.setIfInBounds_toArray, List.set_cons_zero, List.set_cons_succ]; rfl)))
            (refine pure_ (i := 5) (N := some 76) (v := ?_) (a' := ?_) #[true, true, true, true, true, true, false, false, false, false, false, false] rfl rfl (by kernel_rfl) (fun _ _ _ h => h) (Or.inl ⟨by rfl, ?_⟩) ?_ ?_; rotate_left; (focus (intro w'_; go_simp; with_reducible rfl)); rotate_left; (focus (simp only [Act.put, List.setIfInBounds_toArray, List.set_cons_zero, List.set_cons_succ]; rfl)))
            (refine take_ (i := 6) (N := some 77) (v := ?_) (a' := ?_) #[true, true, true, true, true, true, true, false, false, false, false, false] rfl rfl (by kernel_rfl) (fun _ _ _ h => h) (Or.inl ⟨by rfl, ?_⟩) hHeld ?_ ?_; rotate_left; (focus (intro w'_ hs_; (repeat obtain ⟨_, hs_⟩ := hs_); go_simp; with_reducible rfl)); rotate_left; (focus (simp only [Act.put, List.setIfInBounds_toArray, List.set_cons_zero, List.set_cons_succ]; rfl)))
            refine one_ (i := 7) (N := some 78) #[true, true, true, true, true, true, true, true, false, false, false, false] rfl rfl (by kernel_rfl) (by decide) (fun K hK => ?_)
            refine goes_ Tryd.func12 (by kernel_rfl) rfl #[.agg #[.int .i64 (g.f3[j]).f0, .slice B1 (g.f3[j]).f1.length d1, .slice B2 (g.f3[j]).f2.length d2, .slice B3 (g.f3[j]).f3.length d3]] (by rfl) rfl rfl (by (try simp only [List.map_toArray, List.map_cons, List.map_nil]); first | done | rfl) ?_
            refine (IH.out _ g.f3[j] Wd (HG.out.below RM0.out.B) hpb (by omega)).mono ?_
            rintro e X1 ⟨cs, rfl, hM, hb1⟩
            obtain ⟨E1, e1, E2, e2, E3, e3, rfl, _⟩ := kGe_open (kRm_isK n _ _ _ ((kRm n).K_of_M hM))
            have rm1 := RM0.out.below hb1
            refine ⟨_, rfl, hK.out _ _ ⟨(blk_cell rm1.o 3).trans rfl, (blk_cell rm1.b 3).trans rfl, cell_below rm1.B Q0.out, cell_below rm1.B Q1.out, cell_below rm1.B Q2.out, cell_below rm1.B Q3.out, trivial⟩ (fun hHeld2 => ?_)⟩
            clear hK K
            (refine norm_ (a' := ?_) ?_ ?_; rotate_left; focus (show Act.put _ (some 78) _ = _; simp only [Act.put, List.setIfInBounds_toArray, List.set_cons_zero, List.set_cons_succ]; rfl))
            refine one_ (i := 8) (N := some 79) #[true, true, true, true, true, true, true, true, true, false, false, false] rfl rfl (by kernel_rfl) (by decide) (fun K hK => ?_)
            (refine value_ (w1 := ?_) (v := ?_) (by rfl) rfl ?_ ?_; rotate_left 2; (focus (go_simp; constructor <;> rfl)))
            have rm2 := rm1.below (below_alloc (Below.refl _ X1) (.cells #[.int .i64 (g.f3[j]).f0, .slice E1 (g.f3[j]).f1.length e1, .slice E2 (g.f3[j]).f2.length e2, .slice E3 (g.f3[j]).f3.length e3] 26))
            refine hK.out _ _ ⟨(blk_cell rm2.o 3).trans rfl, (blk_cell rm2.b 3).trans rfl, cell_below rm2.B Q0.out, cell_below rm2.B Q1.out, cell_below rm2.B Q2.out, cell_below rm2.B Q3.out, trivial⟩ (fun hHeld3 => ?_)
            clear hK K rm2
            (refine norm_ (a' := ?_) ?_ ?_; rotate_left; focus (show Act.put _ (some 79) _ = _; simp only [Act.put, List.setIfInBounds_toArray, List.set_cons_zero, List.set_cons_succ]; rfl))
            refine one_ (i := 9) (N := some 80) #[true, true, true, true, true, true, true, true, true, true, false, false] rfl rfl (by kernel_rfl) (by decide) (fun K hK => ?_)
            have hp4 := Kd.R_below HP0.out hb1
            have hr4 := Kd.R_below HR0.out hb1
            have hl4 := Kd.R_below HL0.out hb1
            have hvlt := Kd.R_lt HP0.out
            have hord := HORD.out
            have hz1 := HZ1.out
            have hz2 := HS2.out
            have hs0 := HS0.out
            have hs4 : Wd.heap.size ≤ X1.heap.size := hb1.size
            refine Kd.R_append_step (kPart (kRm n)) (w0 := X1) W0.heap.size (by rfl) (.tmp 72) (.tmp 79) 24 26 (.agg #[.int .i64 0, .slice none 0 0, .slice none 0 0, .slice none 0 0]) 80 rfl Tryd.underlying24 (show _ = some (some _, (kRm n).sz, 80) by rw [kRm_sz]; exact infoGe) (show _ = (kRm n).sz by rw [kRm_sz]; rfl) (show 0 < (kRm n).sz by rw [kRm_sz]; decide) (by omega) v3 ((g.f3.take j).map some) (some g.f3[j]) [.int .i64 (g.f3[j]).f0, .slice E1 (g.f3[j]).f1.length e1, .slice E2 (g.f3[j]).f2.length e2, .slice E3 (g.f3[j]).f3.length e3] (fun k => W2.heap.size ≤ k) (fun k => Wd.heap.size ≤ k) rfl rfl ?aP ?aK ?aF ?aO ?aB ?aS ?aL ?_
            case aP => exact (kRm n).M_lower (by show W0.heap.size ≤ Wd.heap.size; omega) ((kRm n).M_mono (fun k h => h.2.1) ((kRm n).M_bound hM))
            case aK => exact fun k h => ⟨by omega, fun e => by have := hvlt k e.symm; omega⟩
            case aF => exact fun k h => by omega
            case aO => exact hp4
            case aB => exact Below.refl _ _
            case aS => omega
            case aL => rw [List.length_map, List.length_take]; omega
            intro v7 X5 ho7 hb7 hg7 hat7
            obtain ⟨T, hT⟩ : ∃ T, T = ((g.f3.take j).map some) ++ [some g.f3[j]] := ⟨_, rfl⟩
            rw [← hT] at ho7
            have hT' : T = (g.f3.take (j + 1)).map some := by rw [hT, List.take_succ_eq_append_getElem hlt, List.map_append]; rfl
            have HT := Aside0.mk hT'
            clear hT hT'
            obtain ⟨A7, c7, e7⟩ := Kd.R_slice ho7
            subst e7
            have hown : ∀ k, v3.ownBlock = some k → W2.heap.size ≤ k := fun k e => hp4.1 k e
            have rm7 := rm1.grown hg7 (rm1.B.trans (hb7.mono (by omega))) (fun e => by have := hown _ e.symm; omega) (fun e => by have := hown _ e.symm; omega) (fun e => by have := hown _ e.symm; omega) (fun e => by have := hown _ e.symm; omega)
            have hl7 := Kd.R_grown hl4 hg7 (fun k h e => by have := hown _ e.symm; omega)
            have hr7 := Kd.R_grown hr4 hg7 (fun k h e => by have := hown _ e.symm; omega)
            have hs7 : Wd.heap.size ≤ X5.heap.size := Nat.le_trans hs4 hg7.size
            refine hK.out _ _ ⟨(blk_cell rm7.o 3).trans rfl, (blk_cell rm7.b 3).trans rfl, cell_below rm7.B Q0.out, cell_below rm7.B Q1.out, cell_below rm7.B Q2.out, cell_below rm7.B Q3.out, trivial⟩ (fun hHeld5 => ?_)
            clear hK K hr4 hl4 hp4 hg7 hat7 hb7 rm1 hM
            (refine norm_ (a' := ?_) ?_ ?_; rotate_left; focus (show Act.put _ (some 80) _ = _; simp only [Act.put, List.setIfInBounds_toArray, List.set_cons_zero, List.set_cons_succ]; rfl))
            (refine pure_ (i := 10) (N := some 81) (v := ?_) (a' := ?_) #[true, true, true, true, true, true, true, true, true, true, true, false] rfl rfl (by kernel_rfl) (fun _ _ _ h => h) (Or.inl ⟨by rfl, ?_⟩) ?_ ?_; rotate_left; (focus (intro w'_; go_simp; with_reducible rfl)); rotate_left; (focus (simp only [Act.put, List.setIfInBounds_toArray, List.set_cons_zero, List.set_cons_succ]; rfl)))
            refine last_ (i := 11) (N := none) #[true, true, true, true, true, true, true, true, true, true, true, true] rfl rfl (by kernel_rfl) (by decide) (fun K hK => ?_)
            have hq0 : X5.cell? ⟨gh, 3, none⟩ = some v3 := (blk_cell rm7.o 3).trans rfl
            have hf0 := blk_frozen rm7.o 3
            refine skip_ (w1 := ?_) (by rfl) rfl ?_ ?_
            rotate_left
            · go_simp
              rfl
            refine hK.out _ _ ?_
            clear hK K
            refine done_ (by kernel_rfl) ?_
            have rm8 := rm7.set3 (by omega) (by omega) (by omega) (by omega) (.slice A7 T.length c7)
            have hl8 := Kd.R_set hl7 rm7.o (by decide) 3 (.slice A7 T.length c7)
            have hr8 := Kd.R_set hr7 rm7.o (by decide) 3 (.slice A7 T.length c7)
            have hp8 := Kd.R_far (p := ⟨gh, 3, none⟩) ho7 (fun k h => by show k ≠ gh; omega) (.slice A7 T.length c7)
            have hs8 : W2.heap.size ≤ (X5.setCell ⟨gh, 3, none⟩ (.slice A7 T.length c7)).heap.size := by simp; omega
            obtain ⟨v8, hv8⟩ : ∃ v, v = Value.slice A7 T.length c7 := ⟨_, rfl⟩
            rw [← hv8] at rm8 hl8 hr8 hp8 hs8 ⊢
            obtain ⟨X6, hX6⟩ : ∃ x, x = X5.setCell ⟨gh, 3, none⟩ v8 := ⟨_, rfl⟩
            rw [← hX6] at rm8 hl8 hr8 hp8 hs8 ⊢
            have RM8 := Aside0.mk rm8
            have HL8 := Aside0.mk hl8
            have HR8 := Aside0.mk hr8
            have HP8 := Aside0.mk hp8
            have HS8 := Aside0.mk hs8
            clear hv8 hX6 rm8 hl8 hr8 hp8 hs8 rm7 hl7 hr7 ho7 hq0 hf0 hord hs0 hs4 hs7 hz1 hz2 hHeld hHeld2 hHeld3 hHeld5
            go_wp2_with fail
            go_roundg kq
            case measure => omega
            case rel => exact ⟨j + 1, _, by omega, by go_num, HS8, RM8, HL8, HR8, ⟨by rw [← HT.out]; exact HP8.out⟩⟩
      | succ kq =>
        have hlt : j < g.f2.length := by omega
        obtain ⟨a2, A0, c0, ea, hx, hl, hc⟩ := at_L2 H2.out j (by omega) (by omega)
        subst ea
        rw [rd_L2_at _ _ hlt, Int.toNat_natCast] at hx
        rw [rd_L2_at _ _ hlt] at hc
        have hlen : (g.f2[j]).length ≤ 1073741824 := by
          have := U.out (j + 1)
          rw [upTo_succ g.f2 j hlt] at this
          omega
        have HX := Aside0.mk hx
        have HC := Aside0.mk hc
        clear hx hl hc
        go_wp2_with fail
        refine start_ (n := 23) (S := (fun w' => w'.cell? ⟨gh, 2, none⟩ = some v2 ∧ w'.cell? ⟨gb_, 2, none⟩ = some (.slice (some a2) g.f2.length c2) ∧ w'.cell? (a2.add j) = some (.slice A0 g.f2[j].length c0) ∧ w'.cell? ⟨gm, 0, none⟩ = some (.int .u64 42405) ∧ w'.cell? ⟨gm, 1, none⟩ = some (.int .u64 42406) ∧ True)) (ds := [22]) #[false, false, false, false, false, false, false, false, false, false, false, false, false, false, false, false, false, false, false, false, false, false, false] hmx rfl rfl (⟨(blk_cell (w := wr.drew) RM.out.o 2).trans rfl, (blk_cell (w := wr.drew) RM.out.b 2).trans rfl, cell_below (below_drew RM.out.B) HX.out, (blk_cell (w := wr.drew) RM.out.m 0).trans rfl, (blk_cell (w := wr.drew) RM.out.m 1).trans rfl, trivial⟩) (fun hHeld => ?_)
        have RM0 := Aside0.mk (show RmW w gb_ gr gh gm _ g.f0 (.slice (some ⟨gl, 0, none⟩) g.f1.length cl) v2 (.slice none 0 0) wr.drew from RM.out.below (below_drew (Below.refl _ _)))
        have HL0 := Aside0.mk (Kd.R_drew HL.out)
        have HR0 := Aside0.mk (Kd.R_drew HR.out)
        have HS0 := Aside0.mk (show W1.heap.size ≤ wr.drew.heap.size from HS.out)
        clear RM HL HR HS q2
        generalize wr.drew = Wd at RM0 HL0 HR0 HS0 hHeld ⊢
        have i0 : (0 : Int) ≤ (j : Int) := by omega
        have i1 : (j : Int) < (g.f2.length : Int) := by omega
        (refine pure_ (i := 0) (N := some 31) (v := ?_) (a' := ?_) #[true, false, false, false, false, false, false, false, false, false, false, false, false, false, false, false, false, false, false, false, false, false, false] rfl rfl (by kernel_rfl) (fun _ _ _ h => h) (Or.inl ⟨by rfl, ?_⟩) ?_ ?_; rotate_left; (focus (intro w'_; go_simp; with_reducible rfl)); rotate_left; (focus (simp only [Act.put, List.setIfInBounds_toArray, List.set_cons_zero, List.set_cons_succ]; rfl)))
        (refine pure_ (i := 3) (N := some 34) (v := ?_) (a' := ?_) #[true, false, false, true, false, false, false, false, false, false, false, false, false, false, false, false, false, false, false, false, false, false, false] rfl rfl (by kernel_rfl) (fun _ _ _ h => h) (Or.inl ⟨by rfl, ?_⟩) ?_ ?_; rotate_left; (focus (intro w'_; go_simp; with_reducible rfl)); rotate_left; (focus (simp only [Act.put, List.setIfInBounds_toArray, List.set_cons_zero, List.set_cons_succ]; rfl)))
        (refine pure_ (i := 5) (N := some 36) (v := ?_) (a' := ?_) #[true, false, false, true, false, true, false, false, false, false, false, false, false, false, false, false, false, false, false, false, false, false, false] rfl rfl (by kernel_rfl) (fun _ _ _ h => h) (Or.inl ⟨by rfl, ?_⟩) ?_ ?_; rotate_left; (focus (intro w'_; go_simp; with_reducible rfl)); rotate_left; (focus (simp only [Act.put, List.setIfInBounds_toArray, List.set_cons_zero, List.set_cons_succ]; rfl)))
        (refine pure_ (i := 12) (N := some 43) (v := ?_) (a' := ?_) #[true, false, false, true, false, true, false, false, false, false, false, false, true, false, false, false, false, false, false, false, false, false, false] rfl rfl (by kernel_rfl) (fun _ _ _ h => h) (Or.inl ⟨by rfl, ?_⟩) ?_ ?_; rotate_left; (focus (intro w'_; go_simp; with_reducible rfl)); rotate_left; (focus (simp only [Act.put, List.setIfInBounds_toArray, List.set_cons_zero, List.set_cons_succ]; rfl)))
        (refine pure_ (i := 14) (N := some 45) (v := ?_) (a' := ?_) #[true, false, false, true, false, true, false, false, false, false, false, false, true, false, true, false, false, false, false, false, false, false, false] rfl rfl (by kernel_rfl) (fun _ _ _ h => h) (Or.inl ⟨by rfl, ?_⟩) ?_ ?_; rotate_left; (focus (intro w'_; go_simp; with_reducible rfl)); rotate_left; (focus (simp only [Act.put, List.setIfInBounds_toArray, List.set_cons_zero, List.set_cons_succ]; rfl)))
        (refine take_ (i := 1) (N := some 32) (v := ?_) (a' := ?_) #[true, true, false, true, false, true, false, false, false, false, false, false, true, false, true, false, false, false, false, false, false, false, false] rfl rfl (by kernel_rfl) (fun _ _ _ h => h) (Or.inl ⟨by rfl, ?_⟩) hHeld ?_ ?_; rotate_left; (focus (intro w'_ hs_; (repeat obtain ⟨_, hs_⟩ := hs_); go_simp; with_reducible rfl)); rotate_left; (focus (simp only [Act.put, List.setIfInBounds_toArray, List.set_cons_zero, List.set_cons_succ]; rfl)))
        (refine take_ (i := 4) (N := some 35) (v := ?_) (a' := ?_) #[true, true, false, true, true, true, false, false, false, false, false, false, true, false, true, false, false, false, false, false, false, false, false] rfl rfl (by kernel_rfl) (fun _ _ _ h => h) (Or.inl ⟨by rfl, ?_⟩) hHeld ?_ ?_; rotate_left; (focus (intro w'_ hs_; (repeat obtain ⟨_, hs_⟩ := hs_); go_simp; with_reducible rfl)); rotate_left; (focus (simp only [Act.put, List.setIfInBounds_toArray, List.set_cons_zero, List.set_cons_succ]; rfl)))
        (refine take_ (i := 13) (N := some 44) (v := ?_) (a' := ?_) #[true, true, false, true, true, true, false, false, false, false, false, false, true, true, true, false, false, false, false, false, false, false, false] rfl rfl (by kernel_rfl) (fun _ _ _ h => h) (Or.inl ⟨by rfl, ?_⟩) hHeld ?_ ?_; rotate_left; (focus (intro w'_ hs_; (repeat obtain ⟨_, hs_⟩ := hs_); go_simp; with_reducible rfl)); rotate_left; (focus (simp only [Act.put, List.setIfInBounds_toArray, List.set_cons_zero, List.set_cons_succ]; rfl)))
        (refine take_ (i := 9) (N := some 40) (v := ?_) (a' := ?_) #[true, true, false, true, true, true, false, false, false, true, false, false, true, true, true, false, false, false, false, false, false, false, false] rfl rfl (by kernel_rfl) (fun _ _ _ h => h) (Or.inl ⟨by rfl, ?_⟩) hHeld ?_ ?_; rotate_left; (focus (intro w'_ hs_; (repeat obtain ⟨_, hs_⟩ := hs_); go_simp; with_reducible rfl)); rotate_left; (focus (simp only [Act.put, List.setIfInBounds_toArray, List.set_cons_zero, List.set_cons_succ]; rfl)))
        (refine pure_ (i := 6) (N := some 37) (v := ?_) (a' := ?_) #[true, true, false, true, true, true, true, false, false, true, false, false, true, true, true, false, false, false, false, false, false, false, false] rfl rfl (by kernel_rfl) (fun _ _ _ h => h) (Or.inl ⟨by rfl, ?_⟩) ?_ ?_; rotate_left; (focus (intro w'_; go_simp; with_reducible rfl)); rotate_left; (focus (simp only [Act.put, List.setIfInBounds_toArray, List.set_cons_zero, List.set_cons_succ]; rfl)))
        (refine pure_ (i := 15) (N := some 46) (v := ?_) (a' := ?_) #[true, true, false, true, true, true, true, false, false, true, false, false, true, true, true, true, false, false, false, false, false, false, false] rfl rfl (by kernel_rfl) (fun _ _ _ h => h) (Or.inl ⟨by rfl, ?_⟩) ?_ ?_; rotate_left; (focus (intro w'_; go_simp; with_reducible rfl)); rotate_left; (focus (simp only [Act.put, List.setIfInBounds_toArray, List.set_cons_zero, List.set_cons_succ]; rfl)))
        (refine take_ (i := 7) (N := some 38) (v := ?_) (a' := ?_) #[true, true, false, true, true, true, true, true, false, true, false, false, true, true, true, true, false, false, false, false, false, false, false] rfl rfl (by kernel_rfl) (fun _ _ _ h => h) (Or.inl ⟨by rfl, ?_⟩) hHeld ?_ ?_; rotate_left; (focus (intro w'_ hs_; (repeat obtain ⟨_, hs_⟩ := hs_); go_simp; with_reducible rfl)); rotate_left; (focus (simp only [Act.put, List.setIfInBounds_toArray, List.set_cons_zero, List.set_cons_succ]; rfl)))
        (refine take_ (i := 16) (N := some 47) (v := ?_) (a' := ?_) #[true, true, false, true, true, true, true, true, false, true, false, false, true, true, true, true, true, false, false, false, false, false, false] rfl rfl (by kernel_rfl) (fun _ _ _ h => h) (Or.inl ⟨by rfl, ?_⟩) hHeld ?_ ?_; rotate_left; (focus (intro w'_ hs_; (repeat obtain ⟨_, hs_⟩ := hs_); go_simp; with_reducible rfl)); rotate_left; (focus (simp only [Act.put, List.setIfInBounds_toArray, List.set_cons_zero, List.set_cons_succ]; rfl)))
        (refine pure_ (i := 17) (N := some 48) (v := ?_) (a' := ?_) #[true, true, false, true, true, true, true, true, false, true, false, false, true, true, true, true, true, true, false, false, false, false, false] rfl rfl (by kernel_rfl) (fun _ _ _ h => h) (Or.inl ⟨by rfl, ?_⟩) ?_ ?_; rotate_left; (focus (intro w'_; go_simp; with_reducible rfl)); rotate_left; (focus (simp only [Act.put, List.setIfInBounds_toArray, List.set_cons_zero, List.set_cons_succ]; rfl)))
        refine join_ (σ := Nat × Nat × Option Addr × Nat) 6 #[true, true, true, true, true, true, true, true, true, true, true, false, true, true, true, true, true, true, false, false, false, false, false] (fun s => [(33, .slice (some ⟨s.1, 0, none⟩) 0 0), (41, .slice (some ⟨s.2.1, 0, none⟩) 1 1), (39, .slice s.2.2.1 (g.f2[j]).length s.2.2.2)]) (fun s w' => Below Wd.heap.size Wd w' ∧ w'.heap[s.2.1]? = some (.cells #[.int .u64 42405, .int .u64 42406] 65 (0, 0)) ∧ Kd.R kPt 65 w' Wd.heap.size (fun _ => True) (.slice s.2.2.1 (g.f2[j]).length s.2.2.2) g.f2[j]) ?hcont7 ?hways7
        case hways7 =>
          intro hcont7
          refine two_ (i := 2) (j := 10) #[true, true, true, true, true, true, true, true, false, true, false, false, true, true, true, true, true, true, false, false, false, false, false] #[true, true, false, true, true, true, true, true, false, true, true, false, true, true, true, true, true, true, false, false, false, false, false] rfl rfl rfl rfl (by kernel_rfl) (by decide) (by decide) (fun K hK => ?_) (fun K hK => ?_)
          · (refine value_ (w1 := ?_) (v := ?_) (by rfl) rfl ?_ ?_; rotate_left 2; (focus (go_simp; constructor <;> rfl)))
            have hb1 : Below Wd.heap.size Wd (Wd.alloc (.cells #[] 65)) := below_alloc (Below.refl _ _) _
            have he1 : Kd.R kPt 65 (Wd.alloc (.cells #[] 65)) Wd.heap.size (fun _ => True) (.slice (some ⟨Wd.heap.size, 0, none⟩) 0 0) [] := R_pts0 Wd (Nat.le_refl _) _ trivial
            obtain ⟨X1, hX1⟩ : ∃ x, x = Wd.alloc (.cells #[] 65) := ⟨_, rfl⟩
            rw [← hX1] at hb1 he1 ⊢
            clear hX1
            have rm1 := RM0.out.below hb1
            refine hK.out _ _ ⟨(blk_cell rm1.o 2).trans rfl, (blk_cell rm1.b 2).trans rfl, cell_below rm1.B HX.out, (blk_cell rm1.m 0).trans rfl, (blk_cell rm1.m 1).trans rfl, trivial⟩ (fun hHeld2 => ?_)
            clear hK K
            (refine norm_ (a' := ?_) ?_ ?_; rotate_left; focus (show Act.put _ (some 33) _ = _; simp only [Act.put, List.setIfInBounds_toArray, List.set_cons_zero, List.set_cons_succ]; rfl))
            refine two_ (i := 8) (j := 10) #[true, true, true, true, true, true, true, true, true, true, false, false, true, true, true, true, true, true, false, false, false, false, false] #[true, true, true, true, true, true, true, true, false, true, true, false, true, true, true, true, true, true, false, false, false, false, false] rfl rfl rfl rfl (by kernel_rfl) (by decide) (by decide) (fun K hK => ?_) (fun K hK => ?_)
            · refine Kd.R_append_rows_step kPt (w0 := Wd) Wd.heap.size (by rfl) (.tmp 33) (.tmp 38) 22 65 (.agg #[.int .u64 0, .int .u64 0]) 16 rfl Tryd.underlying22 infoPt rfl (by decide) (by omega) (.slice (some ⟨Wd.heap.size, 0, none⟩) 0 0) [] g.f2[j] _ _ _ (fun _ => True) (fun _ => False) rfl rfl ?aO ?aR (fun _ _ h => h) (fun _ h => h.elim) ?aF ?aB ?aS ?aL ?_
              case aO => exact he1
              case aR => exact Kd.C_below HC.out rm1.B
              case aF => exact fun _ _ => trivial
              case aB => exact hb1
              case aS => exact hb1.size
              case aL => show (0 + (g.f2[j]).length) * 16 ≤ _; omega
              intro v5 X2 ho5 hb5 hg5 hat5
              rw [List.nil_append] at ho5
              obtain ⟨A5, c5, e5⟩ := Kd.R_slice ho5
              subst e5
              have rm2 := RM0.out.below hb5
              refine hK.out _ _ ⟨(blk_cell rm2.o 2).trans rfl, (blk_cell rm2.b 2).trans rfl, cell_below rm2.B HX.out, (blk_cell rm2.m 0).trans rfl, (blk_cell rm2.m 1).trans rfl, trivial⟩ (fun hHeld3 => ?_)
              clear hK K
              (refine norm_ (a' := ?_) ?_ ?_; rotate_left; focus (show Act.put _ (some 39) _ = _; simp only [Act.put, List.setIfInBounds_toArray, List.set_cons_zero, List.set_cons_succ]; rfl))
              refine one_ (i := 10) (N := some 41) #[true, true, true, true, true, true, true, true, true, true, true, false, true, true, true, true, true, true, false, false, false, false, false] rfl rfl (by kernel_rfl) (by decide) (fun K hK => ?_)
              (refine value_ (w1 := ?_) (v := ?_) (by rfl) rfl ?_ ?_; rotate_left 2; (focus (go_simp; constructor <;> rfl)))
              have rm3 := rm2.below (below_alloc (Below.refl _ X2) (.cells #[.int .u64 42405, .int .u64 42406] 65))
              refine hK.out _ _ ⟨(blk_cell rm3.o 2).trans rfl, (blk_cell rm3.b 2).trans rfl, cell_below rm3.B HX.out, (blk_cell rm3.m 0).trans rfl, (blk_cell rm3.m 1).trans rfl, trivial⟩ (fun hHeld4 => ?_)
              (have hh_ := (hcont7 (Wd.heap.size, X2.heap.size, A5, c5) _ ⟨below_alloc hb5 _, World.alloc_heap_new _ _, Kd.R_alloc ho5 _⟩); simp only [putAll, Act.put, List.setIfInBounds_toArray, List.set_cons_zero, List.set_cons_succ] at hh_ ⊢; exact hh_)
            · (refine value_ (w1 := ?_) (v := ?_) (by rfl) rfl ?_ ?_; rotate_left 2; (focus (go_simp; constructor <;> rfl)))
              have hb2 := below_alloc hb1 (.cells #[.int .u64 42405, .int .u64 42406] 65)
              have he2 := Kd.R_alloc he1 (.cells #[.int .u64 42405, .int .u64 42406] 65)
              have k2 := World.alloc_heap_new X1 (.cells #[.int .u64 42405, .int .u64 42406] 65)
              obtain ⟨X2, hX2⟩ : ∃ x, x = X1.alloc (.cells #[.int .u64 42405, .int .u64 42406] 65) := ⟨_, rfl⟩
              rw [← hX2] at hb2 he2 k2 ⊢
              clear hX2
              have rm2 := RM0.out.below hb2
              refine hK.out _ _ ⟨(blk_cell rm2.o 2).trans rfl, (blk_cell rm2.b 2).trans rfl, cell_below rm2.B HX.out, (blk_cell rm2.m 0).trans rfl, (blk_cell rm2.m 1).trans rfl, trivial⟩ (fun hHeld3 => ?_)
              clear hK K
              (refine norm_ (a' := ?_) ?_ ?_; rotate_left; focus (show Act.put _ (some 41) _ = _; simp only [Act.put, List.setIfInBounds_toArray, List.set_cons_zero, List.set_cons_succ]; rfl))
              refine one_ (i := 8) (N := some 39) #[true, true, true, true, true, true, true, true, true, true, true, false, true, true, true, true, true, true, false, false, false, false, false] rfl rfl (by kernel_rfl) (by decide) (fun K hK => ?_)
              refine Kd.R_append_rows_step kPt (w0 := Wd) Wd.heap.size (by rfl) (.tmp 33) (.tmp 38) 22 65 (.agg #[.int .u64 0, .int .u64 0]) 16 rfl Tryd.underlying22 infoPt rfl (by decide) (by omega) (.slice (some ⟨Wd.heap.size, 0, none⟩) 0 0) [] g.f2[j] _ _ _ (fun _ => True) (fun _ => False) rfl rfl ?aO ?aR (fun _ _ h => h) (fun _ h => h.elim) ?aF ?aB ?aS ?aL ?_
              case aO => exact he2
              case aR => exact Kd.C_below HC.out rm2.B
              case aF => exact fun _ _ => trivial
              case aB => exact hb2
              case aS => exact hb2.size
              case aL => show (0 + (g.f2[j]).length) * 16 ≤ _; omega
              intro v5 X3 ho5 hb5 hg5 hat5
              rw [List.nil_append] at ho5
              obtain ⟨A5, c5, e5⟩ := Kd.R_slice ho5
              subst e5
              have rm3 := RM0.out.below hb5
              have k3 := blk_grown k2 hg5 (fun e => by have h0 : X1.heap.size = Wd.heap.size := by simpa [Value.ownBlock] using e
                                                       have := Kd.R_lt he1 Wd.heap.size (by simp [Value.ownBlock]); omega)
              refine hK.out _ _ ⟨(blk_cell rm3.o 2).trans rfl, (blk_cell rm3.b 2).trans rfl, cell_below rm3.B HX.out, (blk_cell rm3.m 0).trans rfl, (blk_cell rm3.m 1).trans rfl, trivial⟩ (fun hHeld4 => ?_)
              (have hh_ := (hcont7 (Wd.heap.size, X1.heap.size, A5, c5) _ ⟨hb5, k3, ho5⟩); simp only [putAll, Act.put, List.setIfInBounds_toArray, List.set_cons_zero, List.set_cons_succ] at hh_ ⊢; exact hh_)
          · (refine value_ (w1 := ?_) (v := ?_) (by rfl) rfl ?_ ?_; rotate_left 2; (focus (go_simp; constructor <;> rfl)))
            have hb1 : Below Wd.heap.size Wd (Wd.alloc (.cells #[.int .u64 42405, .int .u64 42406] 65)) := below_alloc (Below.refl _ _) _
            have k1 := World.alloc_heap_new Wd (.cells #[.int .u64 42405, .int .u64 42406] 65)
            obtain ⟨X1, hX1⟩ : ∃ x, x = Wd.alloc (.cells #[.int .u64 42405, .int .u64 42406] 65) := ⟨_, rfl⟩
            rw [← hX1] at hb1 k1 ⊢
            clear hX1
            have rm1 := RM0.out.below hb1
            refine hK.out _ _ ⟨(blk_cell rm1.o 2).trans rfl, (blk_cell rm1.b 2).trans rfl, cell_below rm1.B HX.out, (blk_cell rm1.m 0).trans rfl, (blk_cell rm1.m 1).trans rfl, trivial⟩ (fun hHeld2 => ?_)
            clear hK K
            (refine norm_ (a' := ?_) ?_ ?_; rotate_left; focus (show Act.put _ (some 41) _ = _; simp only [Act.put, List.setIfInBounds_toArray, List.set_cons_zero, List.set_cons_succ]; rfl))
            refine one_ (i := 2) (N := some 33) #[true, true, true, true, true, true, true, true, false, true, true, false, true, true, true, true, true, true, false, false, false, false, false] rfl rfl (by kernel_rfl) (by decide) (fun K hK => ?_)
            (refine value_ (w1 := ?_) (v := ?_) (by rfl) rfl ?_ ?_; rotate_left 2; (focus (go_simp; constructor <;> rfl)))
            have hb2 := below_alloc hb1 (.cells #[] 65)
            have he2 : Kd.R kPt 65 (X1.alloc (.cells #[] 65)) Wd.heap.size (fun _ => True) (.slice (some ⟨X1.heap.size, 0, none⟩) 0 0) [] := R_pts0 X1 hb1.size _ trivial
            have k2 := blk_alloc k1 (.cells #[] 65)
            obtain ⟨X2, hX2⟩ : ∃ x, x = X1.alloc (.cells #[] 65) := ⟨_, rfl⟩
            rw [← hX2] at hb2 he2 k2 ⊢
            clear hX2
            have rm2 := RM0.out.below hb2
            refine hK.out _ _ ⟨(blk_cell rm2.o 2).trans rfl, (blk_cell rm2.b 2).trans rfl, cell_below rm2.B HX.out, (blk_cell rm2.m 0).trans rfl, (blk_cell rm2.m 1).trans rfl, trivial⟩ (fun hHeld3 => ?_)
            clear hK K
            (refine norm_ (a' := ?_) ?_ ?_; rotate_left; focus (show Act.put _ (some 33) _ = _; simp only [Act.put, List.setIfInBounds_toArray, List.set_cons_zero, List.set_cons_succ]; rfl))
            refine one_ (i := 8) (N := some 39) #[true, true, true, true, true, true, true, true, true, true, true, false, true, true, true, true, true, true, false, false, false, false, false] rfl rfl (by kernel_rfl) (by decide) (fun K hK => ?_)
            refine Kd.R_append_rows_step kPt (w0 := Wd) Wd.heap.size (by rfl) (.tmp 33) (.tmp 38) 22 65 (.agg #[.int .u64 0, .int .u64 0]) 16 rfl Tryd.underlying22 infoPt rfl (by decide) (by omega) (.slice (some ⟨X1.heap.size, 0, none⟩) 0 0) [] g.f2[j] _ _ _ (fun _ => True) (fun _ => False) rfl rfl ?aO ?aR (fun _ _ h => h) (fun _ h => h.elim) ?aF ?aB ?aS ?aL ?_
            case aO => exact he2
            case aR => exact Kd.C_below HC.out rm2.B
            case aF => exact fun _ _ => trivial
            case aB => exact hb2
            case aS => exact hb2.size
            case aL => show (0 + (g.f2[j]).length) * 16 ≤ _; omega
            intro v5 X3 ho5 hb5 hg5 hat5
            rw [List.nil_append] at ho5
            obtain ⟨A5, c5, e5⟩ := Kd.R_slice ho5
            subst e5
            have rm3 := RM0.out.below hb5
            have k3 := blk_grown k2 hg5 (fun e => by have h0 : Wd.heap.size = X1.heap.size := by simpa [Value.ownBlock] using e
                                                     have := blk_lt k1; omega)
            refine hK.out _ _ ⟨(blk_cell rm3.o 2).trans rfl, (blk_cell rm3.b 2).trans rfl, cell_below rm3.B HX.out, (blk_cell rm3.m 0).trans rfl, (blk_cell rm3.m 1).trans rfl, trivial⟩ (fun hHeld4 => ?_)
            (have hh_ := (hcont7 (X1.heap.size, Wd.heap.size, A5, c5) _ ⟨hb5, k3, ho5⟩); simp only [putAll, Act.put, List.setIfInBounds_toArray, List.set_cons_zero, List.set_cons_succ] at hh_ ⊢; exact hh_)
        case hcont7 =>
          rintro ⟨gz, gq2, A5, c5⟩ X3 ⟨hb3, k3, ho5⟩
          refine norm_ (a' := ?_) ?_ ?_
          rotate_left
          · simp only [putAll, Act.put, List.setIfInBounds_toArray, List.set_cons_zero, List.set_cons_succ]; rfl
          dsimp only at k3 ho5
          refine one_ (i := 11) (N := some 42) #[true, true, true, true, true, true, true, true, true, true, true, true, true, true, true, true, true, true, false, false, false, false, false] rfl rfl (by kernel_rfl) (by decide) (fun K hK => ?_)
          refine Kd.R_append_rows_step kPt (w0 := Wd) Wd.heap.size (by rfl) (.tmp 39) (.tmp 41) 22 65 (.agg #[.int .u64 0, .int .u64 0]) 16 rfl Tryd.underlying22 infoPt rfl (by decide) (by omega) (.slice A5 (g.f2[j]).length c5) g.f2[j] [mark] _ _ _ (fun _ => True) (fun _ => False) rfl rfl ?aO ?aR (fun _ _ h => h) (fun _ h => h.elim) ?aF ?aB ?aS ?aL ?_
          case aO => exact ho5
          case aR => exact C_mark k3
          case aF => exact fun _ _ => trivial
          case aB => exact hb3
          case aS => exact hb3.size
          case aL => show ((g.f2[j]).length + 1) * 16 ≤ _; omega
          intro v6 X4 ho6 hb6 hg6 hat6
          obtain ⟨gl6, cl6, e6, hgl6, hgl6b, _⟩ := Kd.R_form ho6 (by simp)
          rw [List.length_append, List.length_singleton] at e6
          subst e6
          have hcl6 : (g.f2[j]).length ≤ cl6 := by have := (R_readsN ho6).1; omega
          have rm4 := RM0.out.below hb6
          refine hK.out _ _ ⟨(blk_cell rm4.o 2).trans rfl, (blk_cell rm4.b 2).trans rfl, cell_below rm4.B HX.out, (blk_cell rm4.m 0).trans rfl, (blk_cell rm4.m 1).trans rfl, trivial⟩ (fun hHeld3 => ?_)
          clear hK K k3 ho5 hat6 hg6 hb3
          (refine norm_ (a' := ?_) ?_ ?_; rotate_left; focus (show Act.put _ (some 42) _ = _; simp only [Act.put, List.setIfInBounds_toArray, List.set_cons_zero, List.set_cons_succ]; rfl))
          (refine pure_ (i := 18) (N := some 49) (v := ?_) (a' := ?_) #[true, true, true, true, true, true, true, true, true, true, true, true, true, true, true, true, true, true, true, false, false, false, false] rfl rfl (by kernel_rfl) (fun _ _ _ h => h) (Or.inl ⟨by rfl, ?_⟩) ?_ ?_; rotate_left; (focus (intro w'_; go_simp; with_reducible rfl)); rotate_left; (focus (simp only [Act.put, List.setIfInBounds_toArray, List.set_cons_zero, List.set_cons_succ]; rfl)))
          refine one_ (i := 19) (N := some 50) #[true, true, true, true, true, true, true, true, true, true, true, true, true, true, true, true, true, true, true, true, false, false, false] rfl rfl (by kernel_rfl) (by decide) (fun K hK => ?_)
          (refine value_ (w1 := ?_) (v := ?_) (by rfl) rfl ?_ ?_; rotate_left 2; (focus (go_simp; constructor <;> rfl)))
          have rm5 := rm4.below (below_alloc (Below.refl _ X4) (.cells #[.slice (some ⟨gl6, 0, none⟩) (g.f2[j]).length cl6] 22))
          refine hK.out _ _ ⟨(blk_cell rm5.o 2).trans rfl, (blk_cell rm5.b 2).trans rfl, cell_below rm5.B HX.out, (blk_cell rm5.m 0).trans rfl, (blk_cell rm5.m 1).trans rfl, trivial⟩ (fun hHeld4 => ?_)
          clear hK K rm5
          (refine norm_ (a' := ?_) ?_ ?_; rotate_left; focus (show Act.put _ (some 50) _ = _; simp only [Act.put, List.setIfInBounds_toArray, List.set_cons_zero, List.set_cons_succ]; rfl))
          refine one_ (i := 20) (N := some 51) #[true, true, true, true, true, true, true, true, true, true, true, true, true, true, true, true, true, true, true, true, true, false, false] rfl rfl (by kernel_rfl) (by decide) (fun K hK => ?_)
          have hr4 := Kd.R_below HR0.out hb6
          have hl4 := Kd.R_below HL0.out hb6
          have hvlt := Kd.R_lt HR0.out
          have hord := HORD.out
          have hz1 := HZ1.out
          have hs0 := HS0.out
          have hs4 : Wd.heap.size ≤ X4.heap.size := hb6.size
          refine Kd.R_append_step kRing (w0 := X4) W0.heap.size (by rfl) (.tmp 32) (.tmp 50) 23 22 (.slice none 0 0) 24 rfl Tryd.underlying23 infoPts rfl (by decide) (by omega) v2 ((g.f2.take j).map fun r => (r, true)) (g.f2[j], true) [.slice (some ⟨gl6, 0, none⟩) (g.f2[j]).length cl6] (fun k => W1.heap.size ≤ k) (fun k => Wd.heap.size ≤ k) rfl rfl ?aP ?aK ?aF ?aO ?aB ?aS ?aL ?_
          case aP => exact ⟨_, _, rfl, Kd.R_lower (Kd.R_mono (Kd.R_bound ho6) (fun k h => h.2.1)) (by omega)⟩
          case aK => exact fun k h => ⟨by omega, fun e => by have := hvlt k e.symm; omega⟩
          case aF => exact fun k h => by omega
          case aO => exact hr4
          case aB => exact Below.refl _ _
          case aS => omega
          case aL => rw [List.length_map, List.length_take]; omega
          intro v7 X5 ho7 hb7 hg7 hat7
          obtain ⟨T, hT⟩ : ∃ T, T = ((g.f2.take j).map fun r => (r, true)) ++ [(g.f2[j], true)] := ⟨_, rfl⟩
          rw [← hT] at ho7
          have hT' : T = (g.f2.take (j + 1)).map fun r => (r, true) := by rw [hT, List.take_succ_eq_append_getElem hlt, List.map_append]; rfl
          have HT := Aside0.mk hT'
          clear hT hT'
          obtain ⟨A7, c7, e7⟩ := Kd.R_slice ho7
          subst e7
          have hown : ∀ k, v2.ownBlock = some k → W1.heap.size ≤ k := fun k e => hr4.1 k e
          have rm7 := rm4.grown hg7 (rm4.B.trans (hb7.mono (by omega))) (fun e => by have := hown _ e.symm; omega) (fun e => by have := hown _ e.symm; omega) (fun e => by have := hown _ e.symm; omega) (fun e => by have := hown _ e.symm; omega)
          have hl7 := Kd.R_grown hl4 hg7 (fun k h e => by have := hown _ e.symm; omega)
          have hs7 : Wd.heap.size ≤ X5.heap.size := Nat.le_trans hs4 hg7.size
          refine hK.out _ _ ⟨(blk_cell rm7.o 2).trans rfl, (blk_cell rm7.b 2).trans rfl, cell_below rm7.B HX.out, (blk_cell rm7.m 0).trans rfl, (blk_cell rm7.m 1).trans rfl, trivial⟩ (fun hHeld5 => ?_)
          clear hK K hr4 hl4 hg7 hat7 hb7 rm4
          (refine norm_ (a' := ?_) ?_ ?_; rotate_left; focus (show Act.put _ (some 51) _ = _; simp only [Act.put, List.setIfInBounds_toArray, List.set_cons_zero, List.set_cons_succ]; rfl))
          (refine pure_ (i := 21) (N := some 52) (v := ?_) (a' := ?_) #[true, true, true, true, true, true, true, true, true, true, true, true, true, true, true, true, true, true, true, true, true, true, false] rfl rfl (by kernel_rfl) (fun _ _ _ h => h) (Or.inl ⟨by rfl, ?_⟩) ?_ ?_; rotate_left; (focus (intro w'_; go_simp; with_reducible rfl)); rotate_left; (focus (simp only [Act.put, List.setIfInBounds_toArray, List.set_cons_zero, List.set_cons_succ]; rfl)))
          refine last_ (i := 22) (N := none) #[true, true, true, true, true, true, true, true, true, true, true, true, true, true, true, true, true, true, true, true, true, true, true] rfl rfl (by kernel_rfl) (by decide) (fun K hK => ?_)
          have hq0 : X5.cell? ⟨gh, 2, none⟩ = some v2 := (blk_cell rm7.o 2).trans rfl
          have hf0 := blk_frozen rm7.o 2
          refine skip_ (w1 := ?_) (by rfl) rfl ?_ ?_
          rotate_left
          · go_simp
            rfl
          refine hK.out _ _ ?_
          clear hK K
          refine done_ (by kernel_rfl) ?_
          have rm8 := rm7.set2 (by omega) (by omega) (by omega) (by omega) (.slice A7 T.length c7)
          have hl8 := Kd.R_set hl7 rm7.o (by decide) 2 (.slice A7 T.length c7)
          have hr8 := Kd.R_set ho7 rm7.o (by decide) 2 (.slice A7 T.length c7)
          have hs8 : W1.heap.size ≤ (X5.setCell ⟨gh, 2, none⟩ (.slice A7 T.length c7)).heap.size := by simp; omega
          obtain ⟨v8, hv8⟩ : ∃ v, v = Value.slice A7 T.length c7 := ⟨_, rfl⟩
          rw [← hv8] at rm8 hl8 hr8 hs8 ⊢
          obtain ⟨X6, hX6⟩ : ∃ x, x = X5.setCell ⟨gh, 2, none⟩ v8 := ⟨_, rfl⟩
          rw [← hX6] at rm8 hl8 hr8 hs8 ⊢
          have RM8 := Aside0.mk rm8
          have HL8 := Aside0.mk hl8
          have HR8 := Aside0.mk hr8
          have HS8 := Aside0.mk hs8
          clear hv8 hX6 rm8 hl8 hr8 hs8 rm7 hl7 ho7 hq0 hf0 hord hs0 hs4 hs7 hz1 hHeld hHeld3 hHeld4 hHeld5
          go_wp2_with fail
          go_roundg kq
          case measure => omega
          case rel => exact ⟨j + 1, _, by omega, by go_num, HS8, RM8, HL8, ⟨by rw [← HT.out]; exact HR8.out⟩⟩
end Go.Proofs.YtmcbniobbbjdjaaDoor.Tree
