/- Points by contract. No conditions but those told. -/
import Derived.Test.YtmcbniobbbjdjaaDoorTWrap
import Derived.Test.YtmcbniobbbjdjaaDoorTCopy
namespace Go.Proofs.YtmcbniobbbjdjaaDoor.Tree
open Go.RowKit Go.Proofs.YtmcbniobbbjdjaaDoorW.PrintWords Go.Proofs.YtmcbniobbbjdjaaDoorW.PrintLast Go.Proofs.YtmcbniobbbjdjaaDoorW.PrintMore
set_option linter.unusedVariables false
set_option linter.unusedSimpArgs false
attribute [local go_sem] Oper.semAt_some max2_int max_two
section
variable {P : Program} {ops : Array Oper} {Q : Exit → Act → World → Prop} {S : World → Prop} {ds : List Nat}
/-- The start of a region that draws its order, inside a round. -/
theorem start_any {n : Nat} {a : Act} {w : World} (l : Array Bool) (hn : ops.size = n) (hl : Array.replicate n false = l) (hS : S w) (h : S w → wpAnyLast P .any ops Q S ds n l a w) :
    wpAny P .any ops Q ops.size (Array.replicate ops.size false) a w := by
  subst hn
  subst hl
  exact wpAny_of_last _ _ _ _ (h hS)
end
/-- All points of geometries in their order. -/
def ptsAll (l : List It) : List Pt := (l.map fun x => own x.f0).flatten
theorem ptsAll_len (l : List It) : (ptsAll l).length = ptsOf l := by
  induction l with
  | nil => rfl
  | cons x l ih =>
    rw [ptsOf_cons, ← ih]
    unfold ptsAll
    rw [List.map_cons, List.flatten_cons, List.length_append]
theorem step_grown {α : Type} {d : Kd α} {e n₀ B : Nat} {ok : Nat → Prop} {v : Value} {xs : List α} {A W W' : World} (h : Step n₀ B A W) (ho : d.R e W n₀ ok v xs) (hg : W.grownBy W' v.ownBlock) (hn : n₀ ≤ W.heap.size) (ht : e ≠ 75) : Step n₀ B A W' :=
  h.grown hg hn (fun k hk => ⟨Kd.R_base ho k hk, let ⟨cs, hc⟩ := Kd.R_typed ho k hk; ⟨cs, e, hc, ht⟩⟩)
theorem ptsAll_snoc (l : List It) (x : It) : ptsAll (l ++ [x]) = ptsAll l ++ own x.f0 := by unfold ptsAll; rw [List.map_append, List.flatten_append]; simp
/-- Rows stay where only what is no cells is written. -/
theorem R_own {α : Type} {d : Kd α} {e base : Nat} {ok : Nat → Prop} {v : Value} {xs : List α} {A B : World} {row : Option Nat} (h : d.R e A base ok v xs) (hg : A.grownBy B row) (hr : ∀ r, row = some r → ∃ o : Obj, A.heap[r]? = some o ∧ o.isCells = false) : d.R e B base ok v xs := by
  refine Kd.R_mono (Kd.R_move (Kd.R_bound h) ?_) (fun _ hk => hk.1)
  rintro k ⟨_, _, hlt, q, _, cells, hc⟩
  exact grownBy_keeps_cells hg hr hc rfl
set_option maxRecDepth 100000 in
set_option maxHeartbeats 4000000 in
theorem points_calls (v : Value) (g : Ge) (w : World) (hv : IsG w v g) (hbk : g.bulk ≤ 2097152) :
    Calls Tryd.prog 25 #[v] w fun e w' => ∃ u, e = .returned u ∧ Kd.R kPt 65 w' w.heap.size (fun _ => True) u (ptsAll (nodes g 1 0)) ∧ Below w.heap.size w w' := by
  have hv' := hv
  obtain ⟨A1, c1, A2, c2, A3, c3, rfl, _⟩ := hv'
  obtain ⟨w0, hw0⟩ : ∃ w0, w0 = w.alloc (.cells #[.int .i64 g.f0, .slice A1 g.f1.length c1, .slice A2 g.f2.length c2, .slice A3 g.f3.length c3] 26) := ⟨_, rfl⟩
  have hs0 : w0.heap.size = w.heap.size + 1 := by rw [hw0]; simp
  have hG : GAt w0 ⟨w.heap.size, 0, none⟩ g := by
    refine GAt.box (hv.below (w1 := w0) ?_) (b := w.heap.size) (cs := #[.int .i64 g.f0, .slice A1 g.f1.length c1, .slice A2 g.f2.length c2, .slice A3 g.f3.length c3]) ?_ rfl
    · rw [hw0]; exact below_alloc (Below.refl _ _) _
    · rw [hw0]; exact World.alloc_heap_new w _
  refine (callsIn_wide (n := 3)).1 ?_
  refine callsIn_of_wp_marks Tryd.func25 rfl trivial ?_ rfl
  simp only [Tryd.ntmps25, List.size_toArray, List.length_cons, List.length_nil, Nat.reduceAdd, Nat.reduceSub, Array.replicate_succ, Array.replicate_zero, List.push_toArray, List.append_toArray, List.nil_append, List.cons_append]
  gi_wp2_with fail
  refine ⟨trivial, ?_⟩
  refine (Free.plain.calls (all_calls _ _)).mono ?_
  rintro e w' ⟨rfl, rfl⟩
  gi_wp2_with fail
  refine range_all (w0.heap.size) w0 rfl g ⟨w.heap.size, 0, none⟩ hG (by omega) ?hw (w.heap.size + 2) ?hBt rfl rfl
    (fun x B => { tmps := #[Value.agg #[.int .i64 g.f0, .slice A1 g.f1.length c1, .slice A2 g.f2.length c2, .slice A3 g.f3.length c3], .pointer (some ⟨w.heap.size, 0, none⟩), .slice none 0 0, .pointer (some ⟨w.heap.size + 1, 0, none⟩), .pointer (some ⟨B, 0, none⟩), undef, undef, .func (.func 48) #[] #[.pointer (some ⟨w.heap.size + 2, 0, none⟩)], x.enc, undef, undef, undef, undef, undef, undef, undef, undef, undef, undef, undef, undef, undef, undef, undef, undef, undef, undef, undef, undef, undef, undef], defers := [] })
    ?hassign
    (fun pre W => ∃ v, W.heap[w.heap.size + 1]? = some (.cells #[v] 22 (0, 0)) ∧ Kd.R kPt 65 W w0.heap.size (fun _ => True) v (ptsAll pre))
    (fun _ _ => False) ?hI (fun _ _ _ _ h _ _ => h) ?h0 ?hbody ?hdone (fun _ _ _ _ _ h => h.elim)
  case hw => rw [hw0]; exact ((Below.refl _ _).alloc (Nat.le_refl _) _).alloc (by simp) _
  case hBt => exact (blk_cell (heap_at (by simp) _) 0).trans rfl
  case hassign =>
    intro l x W K hK
    dsimp only [Spot.enc]
    gi_wp2
    exact hK
  case hI =>
    rintro s A B row ⟨v, h1, h2⟩ hg hr
    refine ⟨v, (grownBy_keeps_cells hg (fun r e => (hr r e).2) h1 rfl).trans h1, R_own h2 hg (fun r e => (hr r e).2)⟩
  case h0 => exact ⟨_, heap_old (heap_at (by simp) _) _, Kd.R_nil _ _ _ _ _⟩
  case hbody =>
    rintro l pre x Bx W hm hGx hb hn hB hbx ⟨v, hi1, hi2⟩ hlen
    have hmx : Tryd.prog.follows .mixedOrders = true := by kernel_rfl
    simp only [World.size_alloc] at hB
    have hne : Bx ≠ w.heap.size + 1 := by omega
    have hgx := hGx.below hb
    obtain ⟨D1, d1, D2, d2, D3, d3, g0, g1, g2, g3, m1, q1, m2, q2, m3, q3⟩ := hGx
    have HC1 := Aside0.mk q1
    have HC2 := Aside0.mk q2
    have G1 := Aside0.mk g1
    have G2 := Aside0.mk g2
    have e1 := cell_below hb g1
    have e2 := cell_below hb g2
    have t0 : W.cell? ⟨Bx, 0, none⟩ = some (.pointer (some x.ad)) := (blk_cell hbx 0).trans rfl
    have m0 : W.cell? ⟨w.heap.size + 1, 0, none⟩ = some v := (blk_cell hi1 0).trans rfl
    have f0 := blk_frozen hi1 0
    have hxb := nodes_bulk (hm x.it (by simp))
    have hl2 : x.g.f2.length ≤ 2097152 := by
      have h1 := x.g.bulk_eq
      have h2 : x.g.bulk ≤ g.bulk := hxb
      omega
    have hlt2 := nodes_len g 1 0
    have hp := ptsOf_le (pre ++ [x.it]) 2097152 (fun y hy => by have := nodes_bulk (hm y hy); have := own_len y.f0; omega)
    have hp2 : (pre ++ [x.it]).length * 2097152 ≤ 2097152 * 2097152 := Nat.mul_le_mul_right _ (by omega)
    rw [ptsOf_snoc] at hp
    have hpl : (ptsAll pre).length + (own x.g).length ≤ 4398046511104 := by have : (own x.it.f0).length = (own x.g).length := rfl; rw [ptsAll_len]; omega
    have HB0 := Aside0.mk hb
    have HBX := Aside0.mk hbx
    have HI1 := Aside0.mk hi1
    have HI2 := Aside0.mk hi2
    have HH := Aside0.mk (And.intro hn (And.intro hs0 hB))
    clear hb hbx hi1 hi2 hm hlen hlt2 hp hp2 hxb q1 q2 q3 g0 g1 g2 g3 hn hs0 hB
    gi_wp2_with fail
    refine Free.draws (.round l) hmx ?hq (by decide) ?_
    case hq => rintro ⟨_, _, h⟩; exact h
    refine start_any (n := 8) (S := fun w' => w'.cell? ⟨w.heap.size + 1, 0, none⟩ = some v ∧ w'.cell? ⟨Bx, 0, none⟩ = some (.pointer (some x.ad)) ∧ w'.cell? ⟨x.ad.block, x.ad.off + 1, none⟩ = some (.slice D1 x.g.f1.length d1) ∧ True) (ds := [7]) #[false, false, false, false, false, false, false, false] rfl rfl ⟨(by simpa using m0), (by simpa using t0), (by simpa using e1), trivial⟩ (fun hHeld => ?_)
    (refine pure_ (i := 1) (N := some 10) (v := ?_) (a' := ?_) #[false, true, false, false, false, false, false, false] rfl rfl (by kernel_rfl) (fun _ _ _ h => h) (Or.inl ⟨by rfl, ?_⟩) ?_ ?_; rotate_left; (focus (intro w'_; go_simp; with_reducible rfl)); rotate_left; (focus (simp only [Act.put, List.setIfInBounds_toArray, List.set_cons_zero, List.set_cons_succ]; rfl)))
    (refine take_ (i := 0) (N := some 9) (v := ?_) (a' := ?_) #[true, true, false, false, false, false, false, false] rfl rfl (by kernel_rfl) (fun _ _ _ h => h) (Or.inl ⟨by rfl, ?_⟩) hHeld ?_ ?_; rotate_left; (focus (intro w'_ hs_; (repeat obtain ⟨_, hs_⟩ := hs_); go_simp; with_reducible rfl)); rotate_left; (focus (simp only [Act.put, List.setIfInBounds_toArray, List.set_cons_zero, List.set_cons_succ]; rfl)))
    (refine take_ (i := 2) (N := some 11) (v := ?_) (a' := ?_) #[true, true, true, false, false, false, false, false] rfl rfl (by kernel_rfl) (fun _ _ _ h => h) (Or.inl ⟨by rfl, ?_⟩) hHeld ?_ ?_; rotate_left; (focus (intro w'_ hs_; (repeat obtain ⟨_, hs_⟩ := hs_); go_simp; with_reducible rfl)); rotate_left; (focus (simp only [Act.put, List.setIfInBounds_toArray, List.set_cons_zero, List.set_cons_succ]; rfl)))
    (refine pure_ (i := 3) (N := some 12) (v := ?_) (a' := ?_) #[true, true, true, true, false, false, false, false] rfl rfl (by kernel_rfl) (fun _ _ _ h => h) (Or.inl ⟨by rfl, ?_⟩) ?_ ?_; rotate_left; (focus (intro w'_; go_simp; with_reducible rfl)); rotate_left; (focus (simp only [Act.put, List.setIfInBounds_toArray, List.set_cons_zero, List.set_cons_succ]; rfl)))
    (refine pure_ (i := 4) (N := some 13) (v := ?_) (a' := ?_) #[true, true, true, true, true, false, false, false] rfl rfl (by kernel_rfl) (fun _ _ _ h => h) (Or.inl ⟨by rfl, ?_⟩) ?_ ?_; rotate_left; (focus (intro w'_; go_simp; with_reducible rfl)); rotate_left; (focus (simp only [Act.put, List.setIfInBounds_toArray, List.set_cons_zero, List.set_cons_succ]; rfl)))
    (refine take_ (i := 5) (N := some 14) (v := ?_) (a' := ?_) #[true, true, true, true, true, true, false, false] rfl rfl (by kernel_rfl) (fun _ _ _ h => h) (Or.inl ⟨by rfl, ?_⟩) hHeld ?_ ?_; rotate_left; (focus (intro w'_ hs_; (repeat obtain ⟨_, hs_⟩ := hs_); go_simp; with_reducible rfl)); rotate_left; (focus (simp only [Act.put, List.setIfInBounds_toArray, List.set_cons_zero, List.set_cons_succ]; rfl)))
    refine one_ (i := 6) (N := some 15) #[true, true, true, true, true, true, true, false] rfl rfl (by kernel_rfl) (by decide) (fun K hK => ?_)
    refine Kd.R_append_rows_step kPt (w0 := w0) w0.heap.size (by rfl) (.tmp 9) (.tmp 14) 22 65 (.agg #[.int .u64 0, .int .u64 0]) 16 rfl Tryd.underlying22 infoPt rfl (by decide) (by omega) v (ptsAll pre) x.g.f1 _ _ _ (fun _ => True) (fun _ => False) rfl rfl ?aO ?aR (fun _ _ h => h) (fun _ h => h.elim) ?aF ?aB ?aS ?aL ?_
    case aO => exact Kd.R_drew HI2.out
    case aR => exact Kd.C_below HC1.out (below_drew HB0.out)
    case aF => exact fun _ _ => trivial
    case aB => exact below_drew HB0.out
    case aS => exact HH.out.1
    case aL => have : x.g.f1.length ≤ (own x.g).length := by unfold own; simp
               omega
    intro v1 w1 ho1 hb1 hg1 hat1
    have k1 : w1.heap[w.heap.size + 1]? = some (.cells #[v] 22 (0, 0)) := blk_grown (w := W.drew) HI1.out hg1 (Kd.R_ne HI2.out HI1.out (by decide))
    have kx : w1.heap[Bx]? = some (.cells #[.pointer (some x.ad), .int .i64 x.lvl, .int .i64 x.of_] 75 (0, 0)) := blk_grown (w := W.drew) HBX.out hg1 (Kd.R_ne HI2.out HBX.out (by decide))
    have st1 := step_grown (B := (((w.alloc (.cells #[.int .i64 g.f0, .slice A1 g.f1.length c1, .slice A2 g.f2.length c2, .slice A3 g.f3.length c3] 26)).alloc (.cells #[.slice none 0 0] 22)).alloc (.cells #[.pointer (some ⟨w.heap.size, 0, none⟩)] 73)).heap.size) ((Step.refl _ _ W).drew) (Kd.R_drew HI2.out) hg1 HH.out.1 (by decide)
    obtain ⟨A7, c7, e7⟩ := Kd.R_slice ho1
    obtain ⟨T, hT⟩ : ∃ T, T = ptsAll pre ++ x.g.f1 := ⟨_, rfl⟩
    rw [← hT] at ho1 e7
    subst e7
    have HT := Aside0.mk hT
    have hs0 : w1.cell? ⟨w.heap.size + 1, 0, none⟩ = some v := (blk_cell k1 0).trans rfl
    have hf0 := blk_frozen k1 0
    clear hT
    refine hK.out _ _ ⟨hs0, (blk_cell kx 0).trans rfl, cell_below hb1 G1.out, trivial⟩ (fun hHeld2 => ?_)
    clear hK K hHeld
    (refine norm_ (a' := ?_) ?_ ?_; rotate_left; focus (show Act.put _ (some 15) _ = _; simp only [Act.put, List.setIfInBounds_toArray, List.set_cons_zero, List.set_cons_succ]; rfl))
    refine last_ (i := 7) (N := none) #[true, true, true, true, true, true, true, true] rfl rfl (by kernel_rfl) (by decide) (fun K hK => ?_)
    refine skip_ (w1 := ?_) (by rfl) rfl ?_ ?_
    rotate_left
    · go_simp
      rfl
    refine hK.out _ _ ?_
    clear hK K
    refine done_ (by kernel_rfl) ?_
    obtain ⟨W2, hW2⟩ : ∃ W2, W2 = w1.setCell ⟨w.heap.size + 1, 0, none⟩ (.slice A7 T.length c7) := ⟨_, rfl⟩
    rw [← hW2]
    have k2 : W2.heap[w.heap.size + 1]? = some (.cells #[.slice A7 T.length c7] 22 (0, 0)) := by rw [hW2]; exact blk_set1 k1 _
    have kx2 : W2.heap[Bx]? = some (.cells #[.pointer (some x.ad), .int .i64 x.lvl, .int .i64 x.of_] 75 (0, 0)) := by rw [hW2]; exact blk_far kx (p := ⟨w.heap.size + 1, 0, none⟩) hne _
    have hnb : w0.heap.size ≤ w.heap.size + 1 := by have := HH.out.2.1; omega
    have st2 := st1.set (j := 0) k1 (by decide) hnb (.slice A7 T.length c7)
    have ho2 : Kd.R kPt 65 W2 w0.heap.size (fun _ => True) (.slice A7 T.length c7) T := by rw [hW2]; exact Kd.R_set ho1 k1 (by decide) 0 _
    have hb2 : Below w0.heap.size w0 W2 := by rw [hW2]; exact hb1.setCell (p := ⟨w.heap.size + 1, 0, none⟩) hnb _
    rw [← hW2] at st2
    have ST := Aside0.mk st2
    have KO := Aside0.mk k2
    have KX := Aside0.mk kx2
    have HO := Aside0.mk ho2
    have HB := Aside0.mk hb2
    have HNB := Aside0.mk hnb
    have u0 : W2.cell? ⟨Bx, 0, none⟩ = some (.pointer (some x.ad)) := (blk_cell kx2 0).trans rfl
    have u2 := cell_below hb2 G2.out
    clear k2 kx2 hnb st2 ho2 hb2 hW2 k1 kx st1 ho1 hs0 hf0 hHeld2 hb1 hg1 hat1
    gi_wp2_with fail
    obtain ⟨NR, hNR⟩ : ∃ n, n = x.g.f2.length := ⟨_, rfl⟩
    gi_loopw [22] (fun i wr => ∃ (k : Nat) (u : Value), k ≤ x.g.f2.length ∧ i = .int .i64 (k : Int) ∧ Aside0 (wr.heap[w.heap.size + 1]? = some (.cells #[u] 22 (0, 0))) ∧ Aside0 (Kd.R kPt 65 wr w0.heap.size (fun _ => True) u (ptsAll pre ++ ownTo x.g k)) ∧ Aside0 (wr.heap[Bx]? = some (.cells #[.pointer (some x.ad), .int .i64 x.lvl, .int .i64 x.of_] 75 (0, 0))) ∧ Aside0 (Step w0.heap.size (((w.alloc (.cells #[.int .i64 g.f0, .slice A1 g.f1.length c1, .slice A2 g.f2.length c2, .slice A3 g.f3.length c3] 26)).alloc (.cells #[.slice none 0 0] 22)).alloc (.cells #[.pointer (some ⟨w.heap.size, 0, none⟩)] 73)).heap.size W wr) ∧ Aside0 (Below w0.heap.size w0 wr)) (fun i _ => x.g.f2.length - (intOf i).toNat)
    case atStart =>
      have e : ownTo x.g 0 = x.g.f1 := by simp [ownTo]
      exact ⟨0, _, Nat.zero_le _, rfl, KO, ⟨by rw [e, ← HT.out]; exact HO.out⟩, KX, ST, HB⟩
    case round =>
      obtain ⟨k, u, hk, rfl, KO, HO, KX, ST, HB⟩ := hrel
      have u0 : wr.cell? ⟨Bx, 0, none⟩ = some (.pointer (some x.ad)) := (blk_cell KX.out 0).trans rfl
      by_cases hlt : k < x.g.f2.length
      · obtain ⟨a2, A0, c0, ea, hx, hl, hc⟩ := at_L2 HC2.out k (by omega) (by omega)
        subst ea
        rw [rd_L2_at _ _ hlt, Int.toNat_natCast] at hx
        rw [rd_L2_at _ _ hlt] at hc
        have hx2 := cell_below HB.out hx
        have o0 : wr.cell? ⟨w.heap.size + 1, 0, none⟩ = some u := (blk_cell KO.out 0).trans rfl
        have of0 := blk_frozen KO.out 0
        have HC := Aside0.mk hc
        clear hx hl hc
        gi_wp2_with (gi_at_builtin; refine Free.list (.round l) (by rintro ⟨_, _, h⟩; exact h) _ _ _ (by decide) ?_)
        have hup : (ptsAll pre ++ ownTo x.g k).length + (x.g.f2[k]).length ≤ 4398046511104 := by
          have h1 := upTo_le x.g.f2 (k + 1)
          rw [upTo_succ _ _ hlt] at h1
          have h2 := ownTo_len x.g k
          have h3 : (own x.g).length = x.g.f1.length + x.g.f2.flatten.length := by unfold own; rw [List.length_append]
          rw [List.length_append]; omega
        refine Kd.R_append_rows kPt (w0 := w0) w0.heap.size rfl (.tmp 26) (.tmp 27) 22 65 (.agg #[.int .u64 0, .int .u64 0]) 16 rfl Tryd.underlying22 infoPt rfl (Nat.succ_pos _) (by omega) u (ptsAll pre ++ ownTo x.g k) x.g.f2[k] _ _ _ (fun _ => True) (fun _ => False) rfl rfl ?aO ?aR (fun _ _ h => h) (fun _ h => h.elim) ?aF ?aB ?aS ?aL ?_
        case aO => exact HO.out
        case aR => exact Kd.C_below HC.out HB.out
        case aF => exact fun _ _ => trivial
        case aB => exact HB.out
        case aS => exact Nat.le_trans (by have := HB.out.size; exact this) (Nat.le_refl _)
        case aL => omega
        intro v1 w1 ho1 hb1 hg1 hat1
        obtain ⟨A8, c8, e8⟩ := Kd.R_slice ho1
        obtain ⟨T2, hT2⟩ : ∃ T, T = ptsAll pre ++ ownTo x.g k ++ x.g.f2[k] := ⟨_, rfl⟩
        rw [← hT2] at ho1 e8
        subst e8
        rw [List.append_assoc, ← ownTo_succ x.g k hlt] at hT2
        have HT2 := Aside0.mk hT2
        have k1 := blk_grown KO.out hg1 (Kd.R_ne HO.out KO.out (by decide))
        have kx := blk_grown KX.out hg1 (Kd.R_ne HO.out KX.out (by decide))
        have st1 := step_grown ST.out HO.out hg1 HB.out.size (by decide)
        have hs0 : w1.cell? ⟨w.heap.size + 1, 0, none⟩ = some u := (blk_cell k1 0).trans rfl
        have hf0 := blk_frozen k1 0
        have K1 := Aside0.mk k1
        have KX1 := Aside0.mk kx
        have ST1 := Aside0.mk st1
        have HO1 := Aside0.mk ho1
        have HB1 := Aside0.mk hb1
        clear hT2 k1 kx st1 ho1 hb1 hg1 hat1 u0 KO HO KX ST HB hup
        go_wp2_with fail
        gi_wp2_with fail
        go_roundw
        case measure => simp [intOf]; omega
        case rel =>
          have hnb := HNB.out
          exact ⟨k + 1, _, by omega, by go_num, ⟨blk_set1 K1.out _⟩, ⟨by rw [← HT2.out]; exact Kd.R_set HO1.out K1.out (by decide) 0 _⟩, ⟨blk_far KX1.out (p := ⟨w.heap.size + 1, 0, none⟩) hne _⟩, ⟨ST1.out.set K1.out (by decide) hnb _⟩, ⟨HB1.out.setCell (p := ⟨w.heap.size + 1, 0, none⟩) hnb _⟩⟩
      · obtain rfl : k = x.g.f2.length := by omega
        gi_wp2_with fail
        refine ⟨ST.out, u, KO.out, ?_⟩
        have h := HO.out
        rw [ownTo_all] at h
        rw [ptsAll_snoc]
        exact h
  case hdone =>
    rintro D W hD ⟨v, hi1, hi2⟩ hb hK
    simp only [World.size_alloc] at hD
    have m0 : W.cell? ⟨w.heap.size + 1, 0, none⟩ = some v := (blk_cell hi1 0).trans rfl
    have HI1 := Aside0.mk hi1
    have HI2 := Aside0.mk hi2
    dsimp only [behind]
    clear hi1 hi2
    gi_wp2
    refine ⟨by simp, .inl ⟨_, _, rfl, run_takeDeferred hK, ?_⟩⟩
    refine ⟨_, results_tmp rfl _ _ _, _, rfl, ?_, ?_⟩
    · have h : Kd.R kPt 65 (W.putObj D (.deferred none)) w0.heap.size (fun _ => True) v (ptsAll (nodes g 1 0)) := by
        refine Kd.R_mono (Kd.R_move (Kd.R_bound HI2.out) ?_) (fun _ _ => trivial)
        rintro k ⟨_, _, _, q, _, cells, hc⟩
        have hne : k ≠ D := by rintro rfl; rw [hK] at hc; cases hc
        rw [hc]; exact put_far hc hne _
      exact Kd.R_lower h (by omega)
    · have hb0 : Below w.heap.size w w0 := by rw [hw0]; exact below_alloc (Below.refl _ _) _
      exact (hb0.trans (hb.mono (by omega))).grown (grownBy_putObj' _ _ _) (by have := hb.size; omega) (fun k e => by cases e; omega)
end Go.Proofs.YtmcbniobbbjdjaaDoor.Tree
