/- The reference's Find by contract. No conditions but those told. -/
import Derived.Test.YtmcbniobbbjdjaaTRCopy
import Derived.BigQuiet
namespace Go.Proofs.Ytmcbniobbbjdjaa.Tree
open Go.RowKit Go.Proofs.YtmcbniobbbjdjaaW.PrintWords Go.Proofs.YtmcbniobbbjdjaaW.PrintLast Go.Proofs.YtmcbniobbbjdjaaW.PrintMore
set_option linter.unusedVariables false
set_option linter.unusedSimpArgs false
theorem IsG.parts {w : World} {a b c : Value} {A : Option Addr} {n m : Nat} {g : Ge} (h : IsG w (.agg #[a, b, c, .slice A n m]) g) : Kd.C kGe w A g.f3.length g.f3 := by
  obtain ⟨_, _, _, _, _, _, e, _, _, _, _, _, h3⟩ := h
  cases e
  exact h3
/-- The boxes of a walk of the reference's Find: the tree that it has come to, and the answer's. -/
structure RfW (w : World) (gb gr : Nat) (g : Ge) (A1 A2 A3 : Option Addr) (c1 c2 c3 : Nat) (W : World) : Prop where
  b : W.heap[gb]? = some (.cells #[.int .i64 g.f0, .slice A1 g.f1.length c1, .slice A2 g.f2.length c2, .slice A3 g.f3.length c3] 26 (0, 0))
  r : W.heap[gr]? = some (.cells #[.int .i64 0, .slice none 0 0, .slice none 0 0, .slice none 0 0] 26 (0, 0))
  G : IsG w (.agg #[.int .i64 g.f0, .slice A1 g.f1.length c1, .slice A2 g.f2.length c2, .slice A3 g.f3.length c3]) g
  B : Below w.heap.size w W
theorem RfW.below {w W W' : World} {gb gr : Nat} {g : Ge} {A1 A2 A3 : Option Addr} {c1 c2 c3 : Nat} (h : RfW w gb gr g A1 A2 A3 c1 c2 c3 W) (hb : Below W.heap.size W W') : RfW w gb gr g A1 A2 A3 c1 c2 c3 W' := ⟨blk_below h.b hb, blk_below h.r hb, h.G, below_step h.B hb⟩
set_option maxRecDepth 100000 in
set_option maxHeartbeats 4000000 in
theorem rFind_calls (v : Value) (g : Ge) (A : Option Addr) (n c : Nat) (p : List Int) (w : World) (hv : IsG w v g) (hs : g.bulk ≤ 1073741824) (hn : n = p.length) (hp : Kd.C (Kd.int .i64) w A n p) :
    Calls Try.prog 12 #[v, .slice A n c] w fun e w' => ∃ u c, e = .returned (.tuple #[u, .int .i64 c]) ∧ FindRes w w' g p u c ∧ Below w.heap.size w w' := by
  subst hn
  have HV := Aside0.mk hv
  have HP := Aside0.mk hp
  obtain ⟨A1, c1, A2, c2, A3, c3, rfl, _⟩ := hv
  have hu := Try.underlying26
  clear hp
  have hmx : Try.prog.follows .mixedOrders = true := by kernel_rfl
  have HB := Aside0.mk (Below.refl w.heap.size w)
  by_cases hl : 256 < p.length
  · have hl' : (256 : Int) < (p.length : Int) := by omega
    have HF := Aside0.mk (show findR g p = none by rw [findR, if_pos hl])
    go_enter Try.func12, Try.ntmps12
    go_wp2_with (first
      | ((with_reducible refine gate_dst (N := 2) rfl ?_); refine box_event ?hg (N := 2) ?hd (cs := #[.int .i64 g.f0, .slice A1 g.f1.length c1, .slice A2 g.f2.length c2, .slice A3 g.f3.length c3]) (t := 26) ?hr ?_; (case hd => rfl); (case hg => rfl); (case hr => first | (go_simp; done) | (go_simp; rfl)); intro gb_ hgb_ wb_ hbox_ hbb_; have GE := Aside0.mk (show w.heap.size ≤ gb_ from by rw [hgb_]; exact below_size (by repeat (first | (with_reducible first | exact HB.out | apply below_alloc | apply pw_below_drewN | apply below_drew1) | exact HB.out))); have n_ := Aside0.mk (below_step (by repeat (first | (with_reducible first | exact HB.out | apply below_alloc | apply pw_below_drewN | apply below_drew1) | exact HB.out)) hbb_); clear HB; have HB := n_; have BK := Aside0.mk hbox_; skip; clear n_ hbox_ hbb_ hgb_))
    refine bodyPost_ret (results_geom2 (a := 4) (c := 5) (by rfl) _ _ (by rfl) (World.alloc_heap_new _ _)) rfl ?_
    refine ⟨_, _, rfl, ?_, below_alloc HB.out _⟩
    unfold FindRes
    rw [HF.out]
    exact ⟨rfl, rfl⟩
  · have hl' : ¬ (256 : Int) < (p.length : Int) := by omega
    have HR2 := Aside0.mk (show findR g p = at_ g p by rw [findR, if_neg hl])
    go_enter Try.func12, Try.ntmps12
    go_wp2_with (first
      | ((with_reducible refine gate_dst (N := 2) rfl ?_); refine box_event ?hg (N := 2) ?hd (cs := #[.int .i64 g.f0, .slice A1 g.f1.length c1, .slice A2 g.f2.length c2, .slice A3 g.f3.length c3]) (t := 26) ?hr ?_; (case hd => rfl); (case hg => rfl); (case hr => first | (go_simp; done) | (go_simp; rfl)); intro gb_ hgb_ wb_ hbox_ hbb_; have GE := Aside0.mk (show w.heap.size ≤ gb_ from by rw [hgb_]; exact below_size (by repeat (first | (with_reducible first | exact HB.out | apply below_alloc | apply pw_below_drewN | apply below_drew1) | exact HB.out))); have n_ := Aside0.mk (below_step (by repeat (first | (with_reducible first | exact HB.out | apply below_alloc | apply pw_below_drewN | apply below_drew1) | exact HB.out)) hbb_); clear HB; have HB := n_; have BK := Aside0.mk hbox_; skip; clear n_ hbox_ hbb_ hgb_))
    obtain ⟨gr, hgr⟩ : ∃ x, x = wb_.heap.size := ⟨_, rfl⟩
    obtain ⟨W0, hW0⟩ : ∃ x, x = wb_.alloc (.cells #[.int .i64 0, .slice none 0 0, .slice none 0 0, .slice none 0 0] 26) := ⟨_, rfl⟩
    rw [← hW0, ← hgr]
    have HGE := Aside0.mk (show w.heap.size ≤ gr ∧ w.heap.size ≤ gb_ ∧ gb_ < gr by
      have h1 := GE.out
      have h2 := blk_lt BK.out
      omega)
    have RW := Aside0.mk (show RfW w gb_ gr g A1 A2 A3 c1 c2 c3 W0 by
      rw [hW0, hgr]
      exact ⟨blk_alloc BK.out _, World.alloc_heap_new _ _, HV.out, below_alloc HB.out _⟩)
    clear hW0 hgr GE BK HB
    go_loopg [6] p.length (fun kq i wr => ∃ (k : Nat) (gk : Ge) (B1 B2 B3 : Option Addr) (b1 b2 b3 : Nat), k + kq = p.length ∧ i = .int .i64 (k : Int) ∧ Aside0 (at_ g (p.take k) = some gk) ∧ Aside0 (RfW w gb_ gr gk B1 B2 B3 b1 b2 b3 wr))
    case atStart => exact ⟨0, g, _, _, _, _, _, _, by omega, rfl, ⟨rfl⟩, RW⟩
    case round =>
      clear RW
      obtain ⟨k, gk0, B1, B2, B3, b1, b2, b3, hk, rfl, HA, RW⟩ := hrel
      obtain ⟨gkk, hgk⟩ : ∃ x, x = gk0 := ⟨_, rfl⟩
      cases gk with
      | zero =>
        have hlt : ¬ ((k : Int) < (p.length : Int)) := by omega
        obtain rfl : k = p.length := by omega
        have z0 : wr.cell? ⟨gb_, 0, none⟩ = some (.int .i64 gk0.f0) := (blk_cell RW.out.b 0).trans rfl
        have z1 : wr.cell? ⟨gb_, 1, none⟩ = some (.slice B1 gk0.f1.length b1) := (blk_cell RW.out.b 1).trans rfl
        have z2 : wr.cell? ⟨gb_, 2, none⟩ = some (.slice B2 gk0.f2.length b2) := (blk_cell RW.out.b 2).trans rfl
        have z3 : wr.cell? ⟨gb_, 3, none⟩ = some (.slice B3 gk0.f3.length b3) := (blk_cell RW.out.b 3).trans rfl
        have HQ := Aside0.mk (show findR g p = some gk0 by have h := HA.out; rw [List.take_length] at h; exact HR2.out.trans h)
        have hkb : gk0.bulk ≤ g.bulk := at_bulk _ g gk0 HA.out
        clear hgk
        go_wp2_with fail
        refine (rcopy_calls gk0.bulk _ gk0 wr (RW.out.G.below RW.out.B) (Nat.le_refl _) (by omega)).mono ?_
        rintro e w2 ⟨u, rfl, hcp, hb2⟩
        obtain ⟨cs, rfl, hM⟩ := hcp
        obtain ⟨E1, x1, E2, x2, E3, x3, rfl, _⟩ := kGe_open (kSp_K _ ((kSp _).K_of_M hM))
        have BKr := blk_below RW.out.r hb2
        have r0 : w2.cell? ⟨gr, 0, none⟩ = some (.int .i64 0) := (blk_cell BKr 0).trans rfl
        have r1 : w2.cell? ⟨gr, 1, none⟩ = some (.slice none 0 0) := (blk_cell BKr 1).trans rfl
        have r2 : w2.cell? ⟨gr, 2, none⟩ = some (.slice none 0 0) := (blk_cell BKr 2).trans rfl
        have r3 : w2.cell? ⟨gr, 3, none⟩ = some (.slice none 0 0) := (blk_cell BKr 3).trans rfl
        have t0 := blk_frozen BKr 0
        have t1 := blk_frozen BKr 1
        have t2 := blk_frozen BKr 2
        have t3 := blk_frozen BKr 3
        have hlt2 := blk_lt RW.out.r
        have HL := Aside0.mk hlt2
        have BR2 := Aside0.mk BKr
        have HB1 := Aside0.mk RW.out.B
        have HB2 := Aside0.mk (below_step RW.out.B hb2)
        have HM := Aside0.mk hM
        clear BKr hb2 hM hlt2 RW z0 z1 z2 z3 hlt hk
        go_wp2_with fail
        have bk := blk_set (blk_set (blk_set (blk_set BR2.out 0 (.int .i64 gk0.f0)) 1 (.slice E1 gk0.f1.length x1)) 2 (.slice E2 gk0.f2.length x2)) 3 (.slice E3 gk0.f3.length x3)
        refine bodyPost_ret (results_geom2 (a := 4) (c := 5) (by rfl) _ _ (by rfl) (by simpa using bk)) rfl ?_
        refine ⟨_, _, rfl, ?_, (((HB2.out.setCell (p := ⟨gr, 0, none⟩) HGE.out.1 _).setCell (p := ⟨gr, 1, none⟩) HGE.out.1 _).setCell (p := ⟨gr, 2, none⟩) HGE.out.1 _).setCell (p := ⟨gr, 3, none⟩) HGE.out.1 _⟩
        unfold FindRes
        rw [HQ.out]
        refine ⟨CopyOf.lower (w := wr) ⟨_, rfl, ?_⟩ HB1.out.size, rfl⟩
        have hL := HL.out
        exact Kd.M_far (p := ⟨gr, 3, none⟩) (Kd.M_far (p := ⟨gr, 2, none⟩) (Kd.M_far (p := ⟨gr, 1, none⟩) (Kd.M_far (p := ⟨gr, 0, none⟩) HM.out (fun j h => by show j ≠ gr; omega) _) (fun j h => by show j ≠ gr; omega) _) (fun j h => by show j ≠ gr; omega) _) (fun j h => by show j ≠ gr; omega) _
      | succ kq =>
        have hlt : (k : Int) < (p.length : Int) := by omega
        have hlt1 : k < p.length := by omega
        obtain ⟨a2, ea, hx⟩ := at_I HP.out k rfl hlt1
        subst ea
        have HT := Aside0.mk (List.take_succ_eq_append_getElem hlt1)
        obtain ⟨i, hi⟩ : ∃ i, i = p[k] := ⟨_, rfl⟩
        rw [← hi] at hx HT
        have HX := Aside0.mk hx
        have z3 : wr.cell? ⟨gb_, 3, none⟩ = some (.slice B3 gk0.f3.length b3) := (blk_cell RW.out.b 3).trans rfl
        have hx' := cell_below RW.out.B hx
        have hb3 : gk0.f3.length ≤ 1073741824 := by
          have := at_bulk _ _ _ HA.out
          have := gk0.bulk_eq
          have := bulks_len gk0.f3
          omega
        have k0 : (0 : Int) ≤ (k : Int) := by omega
        clear hi hx hgk
        by_cases c0 : i < 0
        · have HN := Aside0.mk (show findR g p = none by
            rw [HR2.out, ← List.take_append_drop (k + 1) p, HT.out]
            refine at_stop ?_
            rw [at_snoc i HA.out, if_neg (by omega)])
          go_wp2_with fail
          go_quiet (fail)
          have r0 : (wr.drewN nq).cell? ⟨gr, 0, none⟩ = some (.int .i64 0) := (blk_cell (w := wr.drewN nq) RW.out.r 0).trans rfl
          have r1 : (wr.drewN nq).cell? ⟨gr, 1, none⟩ = some (.slice none 0 0) := (blk_cell (w := wr.drewN nq) RW.out.r 1).trans rfl
          have r2 : (wr.drewN nq).cell? ⟨gr, 2, none⟩ = some (.slice none 0 0) := (blk_cell (w := wr.drewN nq) RW.out.r 2).trans rfl
          have r3 : (wr.drewN nq).cell? ⟨gr, 3, none⟩ = some (.slice none 0 0) := (blk_cell (w := wr.drewN nq) RW.out.r 3).trans rfl
          have t0 := blk_frozen (w := wr.drewN nq) RW.out.r 0
          have t1 := blk_frozen (w := wr.drewN nq) RW.out.r 1
          have t2 := blk_frozen (w := wr.drewN nq) RW.out.r 2
          have t3 := blk_frozen (w := wr.drewN nq) RW.out.r 3
          go_wp2_with fail
          have bk := blk_set (blk_set (blk_set (blk_set (w := wr.drewN nq) RW.out.r 0 (.int .i64 0)) 1 (.slice none 0 0)) 2 (.slice none 0 0)) 3 (.slice none 0 0)
          refine bodyPost_ret (results_geom2 (a := 4) (c := 5) (by rfl) _ _ (by rfl) (by simpa using bk)) rfl ?_
          refine ⟨_, _, rfl, ?_, ((((pw_below_drewN RW.out.B _).setCell (p := ⟨gr, 0, none⟩) HGE.out.1 _).setCell (p := ⟨gr, 1, none⟩) HGE.out.1 _).setCell (p := ⟨gr, 2, none⟩) HGE.out.1 _).setCell (p := ⟨gr, 3, none⟩) HGE.out.1 _⟩
          unfold FindRes
          rw [HN.out]
          exact ⟨rfl, rfl⟩
        · by_cases c1 : (gk0.f3.length : Int) ≤ i
          · have HN := Aside0.mk (show findR g p = none by
              rw [HR2.out, ← List.take_append_drop (k + 1) p, HT.out]
              refine at_stop ?_
              rw [at_snoc i HA.out, if_neg (by omega)])
            go_wp2_with fail
            go_quiet (fail)
            have r0 : (wr.drewN nq).cell? ⟨gr, 0, none⟩ = some (.int .i64 0) := (blk_cell (w := wr.drewN nq) RW.out.r 0).trans rfl
            have r1 : (wr.drewN nq).cell? ⟨gr, 1, none⟩ = some (.slice none 0 0) := (blk_cell (w := wr.drewN nq) RW.out.r 1).trans rfl
            have r2 : (wr.drewN nq).cell? ⟨gr, 2, none⟩ = some (.slice none 0 0) := (blk_cell (w := wr.drewN nq) RW.out.r 2).trans rfl
            have r3 : (wr.drewN nq).cell? ⟨gr, 3, none⟩ = some (.slice none 0 0) := (blk_cell (w := wr.drewN nq) RW.out.r 3).trans rfl
            have t0 := blk_frozen (w := wr.drewN nq) RW.out.r 0
            have t1 := blk_frozen (w := wr.drewN nq) RW.out.r 1
            have t2 := blk_frozen (w := wr.drewN nq) RW.out.r 2
            have t3 := blk_frozen (w := wr.drewN nq) RW.out.r 3
            go_wp2_with fail
            have bk := blk_set (blk_set (blk_set (blk_set (w := wr.drewN nq) RW.out.r 0 (.int .i64 0)) 1 (.slice none 0 0)) 2 (.slice none 0 0)) 3 (.slice none 0 0)
            refine bodyPost_ret (results_geom2 (a := 4) (c := 5) (by rfl) _ _ (by rfl) (by simpa using bk)) rfl ?_
            refine ⟨_, _, rfl, ?_, ((((pw_below_drewN RW.out.B _).setCell (p := ⟨gr, 0, none⟩) HGE.out.1 _).setCell (p := ⟨gr, 1, none⟩) HGE.out.1 _).setCell (p := ⟨gr, 2, none⟩) HGE.out.1 _).setCell (p := ⟨gr, 3, none⟩) HGE.out.1 _⟩
            unfold FindRes
            rw [HN.out]
            exact ⟨rfl, rfl⟩
          · have c0' : ¬ i < 0 := c0
            have c1' : ¬ (gk0.f3.length : Int) ≤ i := c1
            go_wp2_with fail
            go_quiet (fail)
            have hG3 := RW.out.G.parts
            obtain ⟨a3, D1, d1, D2, d2, D3, d3, ea, p0, p1, p2, p3, m1, q1, m2, q2, m3, q3⟩ := at_Ge hG3 i (by omega) (by omega)
            subst ea
            obtain ⟨gx, hgx⟩ : ∃ x, x = rd_Ge gk0.f3 i := ⟨_, rfl⟩
            rw [← hgx] at p0 p1 p2 p3 q1 q2 q3 m1 m2 m3
            have Q0 := Aside0.mk p0
            have Q1 := Aside0.mk p1
            have Q2 := Aside0.mk p2
            have Q3 := Aside0.mk p3
            have HGX := Aside0.mk (show IsG w (.agg #[.int .i64 gx.f0, .slice D1 gx.f1.length d1, .slice D2 gx.f2.length d2, .slice D3 gx.f3.length d3]) gx from ⟨D1, d1, D2, d2, D3, d3, rfl, m1, q1, m2, q2, m3, q3⟩)
            have HA2 := Aside0.mk (show at_ g (p.take (k + 1)) = some gx by rw [HT.out, at_snoc i HA.out, if_pos (by omega), hgx])
            clear p0 p1 p2 p3 q1 q2 q3 m1 m2 m3 hG3 hgx z3 hx'
            have rw9 := RW.out.below (pw_below_drewN (Below.refl _ _) nq)
            clear RW
            generalize wr.drewN nq = wq at rw9 ⊢
            go_wp2_with fail
            have rw0 := rw9.below (below_drew (Below.refl _ _))
            refine start_ (n := 9) (S := fun w' => w'.cell? ⟨gb_, 3, none⟩ = some (.slice (some a3) gk0.f3.length b3) ∧ w'.cell? (a2.add k) = some (.int .i64 i) ∧ w'.cell? (a3.add (i.toNat * 4)) = some (.int .i64 gx.f0) ∧ w'.cell? ⟨(a3.add (i.toNat * 4)).block, (a3.add (i.toNat * 4)).off + 1, none⟩ = some (.slice D1 gx.f1.length d1) ∧ w'.cell? ⟨(a3.add (i.toNat * 4)).block, (a3.add (i.toNat * 4)).off + 2, none⟩ = some (.slice D2 gx.f2.length d2) ∧ w'.cell? ⟨(a3.add (i.toNat * 4)).block, (a3.add (i.toNat * 4)).off + 3, none⟩ = some (.slice D3 gx.f3.length d3) ∧ True) (ds := [8]) #[false, false, false, false, false, false, false, false, false] hmx rfl rfl ⟨(blk_cell rw0.b 3).trans rfl, cell_below rw0.B HX.out, cell_below rw0.B Q0.out, cell_below rw0.B Q1.out, cell_below rw0.B Q2.out, cell_below rw0.B Q3.out, trivial⟩ (fun hHeld => ?_)
            clear rw9
            generalize wq.drew = w1 at rw0 hHeld ⊢
            (refine pure_ (i := 0) (N := some 33) (v := ?_) (a' := ?_) #[true, false, false, false, false, false, false, false, false] rfl rfl (by kernel_rfl) (fun _ _ _ h => h) (Or.inl ⟨by rfl, ?_⟩) ?_ ?_; rotate_left; (focus (intro w'_; go_simp; with_reducible rfl)); rotate_left; (focus (simp only [Act.put, List.setIfInBounds_toArray, List.set_cons_zero, List.set_cons_succ]; rfl)))
            (refine pure_ (i := 2) (N := some 35) (v := ?_) (a' := ?_) #[true, false, true, false, false, false, false, false, false] rfl rfl (by kernel_rfl) (fun _ _ _ h => h) (Or.inl ⟨by rfl, ?_⟩) ?_ ?_; rotate_left; (focus (intro w'_; go_simp; with_reducible rfl)); rotate_left; (focus (simp only [Act.put, List.setIfInBounds_toArray, List.set_cons_zero, List.set_cons_succ]; rfl)))
            (refine pure_ (i := 3) (N := some 36) (v := ?_) (a' := ?_) #[true, false, true, true, false, false, false, false, false] rfl rfl (by kernel_rfl) (fun _ _ _ h => h) (Or.inl ⟨by rfl, ?_⟩) ?_ ?_; rotate_left; (focus (intro w'_; go_simp; with_reducible rfl)); rotate_left; (focus (simp only [Act.put, List.setIfInBounds_toArray, List.set_cons_zero, List.set_cons_succ]; rfl)))
            (refine take_ (i := 1) (N := some 34) (v := ?_) (a' := ?_) #[true, true, true, true, false, false, false, false, false] rfl rfl (by kernel_rfl) (fun _ _ _ h => h) (Or.inl ⟨by rfl, ?_⟩) hHeld ?_ ?_; rotate_left; (focus (intro w'_ hs_; (repeat obtain ⟨_, hs_⟩ := hs_); go_simp; with_reducible rfl)); rotate_left; (focus (simp only [Act.put, List.setIfInBounds_toArray, List.set_cons_zero, List.set_cons_succ]; rfl)))
            (refine pure_ (i := 4) (N := some 37) (v := ?_) (a' := ?_) #[true, true, true, true, true, false, false, false, false] rfl rfl (by kernel_rfl) (fun _ _ _ h => h) (Or.inl ⟨by rfl, ?_⟩) ?_ ?_; rotate_left; (focus (intro w'_; go_simp; with_reducible rfl)); rotate_left; (focus (simp only [Act.put, List.setIfInBounds_toArray, List.set_cons_zero, List.set_cons_succ]; rfl)))
            (refine take_ (i := 5) (N := some 38) (v := ?_) (a' := ?_) #[true, true, true, true, true, true, false, false, false] rfl rfl (by kernel_rfl) (fun _ _ _ h => h) (Or.inl ⟨by rfl, ?_⟩) hHeld ?_ ?_; rotate_left; (focus (intro w'_ hs_; (repeat obtain ⟨_, hs_⟩ := hs_); go_simp; with_reducible rfl)); rotate_left; (focus (simp only [Act.put, List.setIfInBounds_toArray, List.set_cons_zero, List.set_cons_succ]; rfl)))
            (refine pure_ (i := 6) (N := some 39) (v := ?_) (a' := ?_) #[true, true, true, true, true, true, true, false, false] rfl rfl (by kernel_rfl) (fun _ _ _ h => h) (Or.inl ⟨by rfl, ?_⟩) ?_ ?_; rotate_left; (focus (intro w'_; go_simp; with_reducible rfl)); rotate_left; (focus (simp only [Act.put, List.setIfInBounds_toArray, List.set_cons_zero, List.set_cons_succ]; rfl)))
            (refine take_ (i := 7) (N := some 40) (v := ?_) (a' := ?_) #[true, true, true, true, true, true, true, true, false] rfl rfl (by kernel_rfl) (fun _ _ _ h => h) (Or.inl ⟨by rfl, ?_⟩) hHeld ?_ ?_; rotate_left; (focus (intro w'_ hs_; (repeat obtain ⟨_, hs_⟩ := hs_); go_simp; with_reducible rfl)); rotate_left; (focus (simp only [Act.put, List.setIfInBounds_toArray, List.set_cons_zero, List.set_cons_succ]; rfl)))
            refine last_ (i := 8) (N := none) #[true, true, true, true, true, true, true, true, true] rfl rfl (by kernel_rfl) (by decide) (fun K hK => ?_)
            have hs0 : w1.cell? ⟨gb_, 0, none⟩ = some (.int .i64 gk0.f0) := (blk_cell rw0.b 0).trans rfl
            have hf0 := blk_frozen rw0.b 0
            have hs1 : w1.cell? ⟨gb_, 1, none⟩ = some (.slice B1 gk0.f1.length b1) := (blk_cell rw0.b 1).trans rfl
            have hf1 := blk_frozen rw0.b 1
            have hs2 : w1.cell? ⟨gb_, 2, none⟩ = some (.slice B2 gk0.f2.length b2) := (blk_cell rw0.b 2).trans rfl
            have hf2 := blk_frozen rw0.b 2
            have hs3 : w1.cell? ⟨gb_, 3, none⟩ = some (.slice (some a3) gk0.f3.length b3) := (blk_cell rw0.b 3).trans rfl
            have hf3 := blk_frozen rw0.b 3
            refine skip_ (w1 := ?_) (by rfl) rfl ?_ ?_
            rotate_left
            · go_simp
              rfl
            refine hK.out _ _ ?_
            clear hK K
            refine done_ (by kernel_rfl) ?_
            have RW2 := Aside0.mk (show RfW w gb_ gr gx D1 D2 D3 d1 d2 d3 ((((w1.setCell ⟨gb_, 0, none⟩ (.int .i64 gx.f0)).setCell ⟨gb_, 1, none⟩ (.slice D1 gx.f1.length d1)).setCell ⟨gb_, 2, none⟩ (.slice D2 gx.f2.length d2)).setCell ⟨gb_, 3, none⟩ (.slice D3 gx.f3.length d3)) from by
              obtain ⟨hg1, hg2, hg3⟩ := HGE.out
              refine ⟨?_, ?_, HGX.out, ?_⟩
              · simpa using blk_set (blk_set (blk_set (blk_set rw0.b 0 (.int .i64 gx.f0)) 1 (.slice D1 gx.f1.length d1)) 2 (.slice D2 gx.f2.length d2)) 3 (.slice D3 gx.f3.length d3)
              · exact blk_far (p := ⟨gb_, 3, none⟩) (blk_far (p := ⟨gb_, 2, none⟩) (blk_far (p := ⟨gb_, 1, none⟩) (blk_far (p := ⟨gb_, 0, none⟩) rw0.r (by show gr ≠ gb_; omega) _) (by show gr ≠ gb_; omega) _) (by show gr ≠ gb_; omega) _) (by show gr ≠ gb_; omega) _
              · exact (((rw0.B.setCell (p := ⟨gb_, 0, none⟩) hg2 _).setCell (p := ⟨gb_, 1, none⟩) hg2 _).setCell (p := ⟨gb_, 2, none⟩) hg2 _).setCell (p := ⟨gb_, 3, none⟩) hg2 _)
            clear hs0 hs1 hs2 hs3 hf0 hf1 hf2 hf3 rw0 hHeld
            go_wp2_with fail
            go_roundg kq
            case measure => omega
            case rel => exact ⟨k + 1, gx, _, _, _, _, _, _, by omega, by go_num, HA2, RW2⟩
end Go.Proofs.Ytmcbniobbbjdjaa.Tree
