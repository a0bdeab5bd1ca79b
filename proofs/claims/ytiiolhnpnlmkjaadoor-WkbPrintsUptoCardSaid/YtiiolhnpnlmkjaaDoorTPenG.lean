/- The reference's Pen.geometry by contract (printed by wip/tree/pen_gen.py). No conditions but those told. -/
import Derived.Test.YtiiolhnpnlmkjaaDoorTPen
namespace Go.Proofs.YtiiolhnpnlmkjaaDoor.Tree
open Go.RowKit Go.Proofs.YtiiolhnpnlmkjaaDoor.PWkbPrints Go.Proofs.YtiiolhnpnlmkjaaDoorW.PrintWords Go.Proofs.YtiiolhnpnlmkjaaDoorW.PrintLast Go.Proofs.YtiiolhnpnlmkjaaDoorW.PrintMore
set_option linter.unusedVariables false
set_option linter.unusedSimpArgs false
attribute [local go_sem] Oper.semAt_some max2_int max_two min2_int min_two
/-- The pen's row is on its way through calls; it is not put back yet. -/
structure Fl (w0 W0 Wa W : World) (gp : Nat) (O : Option Addr) (co : Nat) (os : List Bool) (k : Nat) (v0 vo u : Value) (out : List Int) (gb : Nat) (gc : Array Value) : Prop where
  r : Rw w0 W u out
  l : Lv Wa W vo u
  p : W.heap[gp]? = some (.cells (cfR vo (.slice O os.length co) (k : Int)) 99 (0, 0))
  b : W.heap[gb]? = some (.cells gc 28 (0, 0))
  n : gb ≠ gp
  M : Mv W0 Wa gp v0 vo
  h : w0.heap.size ≤ gp
  o : Kd.bool.C w0 O os.length os
  a : gp < Wa.heap.size ∧ some gp ≠ vo.ownBlock
section
variable {w0 W0 Wa W W' : World} {gp co k gb : Nat} {O : Option Addr} {os : List Bool} {v0 vo u u' : Value} {out out' : List Int} {gc : Array Value}
theorem Gs.fly (h : Gs 99 cfR w0 W0 W gp O co os k v0 vo out gb gc) : Fl w0 W0 W W gp O co os k v0 vo vo out gb gc :=
  ⟨⟨Kd.R_mono h.P.r (fun _ _ => trivial), h.P.K⟩, Lv.refl _ _, h.P.c, h.b, h.n, h.M, h.P.h, h.P.o, blk_lt h.P.c, h.P.ne⟩
theorem Fl.away (h : Fl w0 W0 Wa W gp O co os k v0 vo u out gb gc) : some gp ≠ u.ownBlock := by
  intro e
  rcases h.l.a with ha | ⟨b, hb, hle⟩
  · exact h.a.2 (e.trans ha)
  · rw [hb] at e
    injection e with e
    have := h.a.1
    omega
theorem Fl.step (h : Fl w0 W0 Wa W gp O co os k v0 vo u out gb gc) (hr : Rw w0 W' u' out') (hv : Lv W W' u u') : Fl w0 W0 Wa W' gp O co os k v0 vo u' out' gb gc :=
  ⟨hr, h.l.trans hv, (hv.k gp (blk_lt h.p) h.away).trans h.p, (hv.k gb (blk_lt h.b) (Kd.R_ne h.r.r h.b (by decide))).trans h.b, h.n, h.M, h.h, h.o, h.a⟩
theorem Fl.land (h : Fl w0 W0 Wa W gp O co os k v0 vo u out gb gc) : Gs 99 cfR w0 W0 (W.setCell ⟨gp, 0, none⟩ u) gp O co os k v0 u out gb gc :=
  ⟨Pr.set (v1 := vo) (k' := k) h.p (Kd.R_mono (Kd.R_tight rfl h.r.r) (fun j hj e => h.away (e ▸ hj))) h.o h.h h.r.K (by simp [cfR]), (h.M.trans (h.l.mv gp)).trans (Mv.set 0 u rfl), by rw [Below.heap_setCell W ⟨gp, 0, none⟩ u gb h.n]; exact h.b, h.n⟩
end

set_option maxRecDepth 100000 in
set_option maxHeartbeats 16000000 in
theorem rgeom_calls (n : Nat) : ∀ (g : Ge) (w0 W : World) (gp : Nat) (O : Option Addr) (co : Nat) (os : List Bool) (k : Nat) (vo : Value) (out : List Int) (v : Value), g.bulk ≤ n → Pr 99 cfR w0 W gp O co os k vo out → IsG w0 v g → out.length + 32 * g.bulk ≤ 70368744177664 → k + g.bulk ≤ 1152921504606846976 → os.length ≤ 1152921504606846976 → Kinds g → g.bulk ≤ 2097152 →
    Calls Tryd.prog 43 #[.pointer (some ⟨gp, 0, none⟩), v] W fun e W' => e = .returned (.tuple #[]) ∧ ∃ vo', Pr 99 cfR w0 W' gp O co os (k + cntG g) vo' (out ++ geoB os g k) ∧ Mv W W' gp vo vo' := by
  induction n with
  | zero => intro g w0 W gp O co os k vo out v h; have := g.bulk_eq; omega
  | succ n ih =>
  intro g w0 W gp O co os k vo out v hbk hP hv hl hk hos hkd hb21
  obtain ⟨A1, c1, A2, c2, A3, c3, rfl, l1, h1, l2, h2, l3, h3⟩ := hv
  have hmx : Tryd.prog.follows .mixedOrders = true := by kernel_rfl
  have hbq := g.bulk_eq
  have HE := Aside0.mk (geoB_eq os g k)
  have HN := Aside0.mk (cntG_eq g)
  have H1 := Aside0.mk h1
  have H2 := Aside0.mk h2
  have H3 := Aside0.mk h3
  have IH := Aside0.mk ih
  have HP := Aside0.mk hP
  have HK := Aside0.mk hkd
  have hk17 := hkd.range
  have hb3 : g.f3.length ≤ 2097152 := by have := bulks_len g.f3; omega
  have hb2 : g.f2.length ≤ 2097152 := by omega
  have hb1 : g.f1.length ≤ 2097152 := by omega
  clear h1 h2 h3 ih hP hkd
  go_enter Tryd.func43, Tryd.ntmps43
  go_wp2_with fail
  obtain ⟨gb, hgb⟩ : ∃ y, y = W.heap.size := ⟨_, rfl⟩
  obtain ⟨W1, hW1⟩ : ∃ y, y = W.alloc (.cells #[.int .i64 g.f0, .slice A1 g.f1.length c1, .slice A2 g.f2.length c2, .slice A3 g.f3.length c3] 28) := ⟨_, rfl⟩
  rw [← hW1, ← hgb]
  have hb1_ : Below W.heap.size W W1 := by rw [hW1]; exact below_alloc (Below.refl _ _) _
  have G1 := Aside0.mk (show Gs 99 cfR w0 W W1 gp O co os k vo vo out gb #[.int .i64 g.f0, .slice A1 g.f1.length c1, .slice A2 g.f2.length c2, .slice A3 g.f3.length c3] from ⟨HP.out.below hb1_, Mv.below gp vo hb1_, by rw [hW1, hgb]; exact World.alloc_heap_new _ _, by have := blk_lt HP.out.c; omega⟩)
  clear hb1_ hW1 hgb HP
  refine (pen_order w0 W1 gp O co os k vo out G1.out.P (by omega) hos).mono ?_
  rintro e w2 ⟨rfl, hp2, hm2⟩
  have G2 := Aside0.mk (G1.out.step hp2 hm2)
  have hol : out.length ≤ 70368744177664 := by omega
  clear G1 hp2 hm2
  have hs0 : w2.cell? ⟨gp, 0, none⟩ = some vo := (blk_cell G2.out.P.c 0).trans rfl
  go_upto_if 9 with fail
  go_cut [4] from 7 to 27 (fun c wx => c = .bool (ordAt os k) ∧ ∃ v1, Gs 99 cfR w0 W wx gp O co os (k + 1) vo v1 (out ++ bitB (ordAt os k)) gb #[.int .i64 g.f0, .slice A1 g.f1.length c1, .slice A2 g.f2.length c2, .slice A3 g.f3.length c3])
  case first =>
    cases hle : ordAt os k with
    | true =>
      go_wp2_with ((with_reducible refine gate_builtin (b := .append) (xs := #[.tmp 14, .tmp 15]) rfl ?_); at_builtin; refine Kd.R_append kB (w0 := w0) w0.heap.size rfl (.tmp 14) (.tmp 15) 22 5 (.int .u8 0) 1 rfl Tryd.underlying22 info5 rfl (by decide) (by omega) vo out (1 : Int) [.int .u8 1] (fun _ => True) (fun _ => False) rfl rfl ?aP ?aK ?aF ?aO ?aB ?aS ?aL ?_; (case aP => rfl); (case aK => exact fun _ h => h.elim); (case aF => exact fun _ _ => trivial); (case aO => exact Kd.R_mono G2.out.P.r (fun _ _ => trivial)); (case aB => exact G2.out.P.K); (case aS => exact G2.out.P.K.size); (case aL => omega); intro v3 w3 ho3 hb3 hg3 hat3; obtain ⟨g1, g2, g3, g4⟩ := G2.out.P.grown ho3 hg3 hat3; obtain ⟨A5, c5, e5⟩ := Kd.R_slice ho3; subst e5; have hs0 : w3.cell? ⟨gp, 0, none⟩ = some vo := (blk_cell g1 0).trans rfl; have hf0 := blk_frozen g1 0; have M3 := Aside0.mk (show Mv w2 w3 gp vo (.slice A5 (out ++ [(1 : Int)]).length c5) from ⟨hg3.size, fun j hj _ hr => hg3.block j hj hr, hat3⟩); (rw [show (out ++ [(1 : Int)]).length = out.length + 1 from by simp] at g2 M3 ⊢); have G3 := Aside0.mk (And.intro g1 (And.intro g2 g3)); clear g1 g2 g3 g4 ho3 hb3 hg3 hat3)
      have hP4 := Pr.set (i := 0) (u := .slice A5 (out.length + 1) c5) (k' := k + 1) G3.out.1 G3.out.2.1 G2.out.P.o G2.out.P.h G3.out.2.2 (by simp [cfR])
      have hM4 := M3.out.trans (Mv.set (W := w3) (gp := gp) (vo' := .slice A5 (out.length + 1) c5) 0 (.slice A5 (out.length + 1) c5) rfl)
      go_meet
      exact ⟨by rw [hle], _, G2.out.step (by rw [bitB, hle]; exact hP4) hM4⟩
    | false =>
      go_wp2_with ((with_reducible refine gate_builtin (b := .append) (xs := #[.tmp 23, .tmp 24]) rfl ?_); at_builtin; refine Kd.R_append kB (w0 := w0) w0.heap.size rfl (.tmp 23) (.tmp 24) 22 5 (.int .u8 0) 1 rfl Tryd.underlying22 info5 rfl (by decide) (by omega) vo out (0 : Int) [.int .u8 0] (fun _ => True) (fun _ => False) rfl rfl ?aP ?aK ?aF ?aO ?aB ?aS ?aL ?_; (case aP => rfl); (case aK => exact fun _ h => h.elim); (case aF => exact fun _ _ => trivial); (case aO => exact Kd.R_mono G2.out.P.r (fun _ _ => trivial)); (case aB => exact G2.out.P.K); (case aS => exact G2.out.P.K.size); (case aL => omega); intro v3 w3 ho3 hb3 hg3 hat3; obtain ⟨g1, g2, g3, g4⟩ := G2.out.P.grown ho3 hg3 hat3; obtain ⟨A5, c5, e5⟩ := Kd.R_slice ho3; subst e5; have hs0 : w3.cell? ⟨gp, 0, none⟩ = some vo := (blk_cell g1 0).trans rfl; have hf0 := blk_frozen g1 0; have M3 := Aside0.mk (show Mv w2 w3 gp vo (.slice A5 (out ++ [(0 : Int)]).length c5) from ⟨hg3.size, fun j hj _ hr => hg3.block j hj hr, hat3⟩); (rw [show (out ++ [(0 : Int)]).length = out.length + 1 from by simp] at g2 M3 ⊢); have G3 := Aside0.mk (And.intro g1 (And.intro g2 g3)); clear g1 g2 g3 g4 ho3 hb3 hg3 hat3)
      have hP4 := Pr.set (i := 0) (u := .slice A5 (out.length + 1) c5) (k' := k + 1) G3.out.1 G3.out.2.1 G2.out.P.o G2.out.P.h G3.out.2.2 (by simp [cfR])
      have hM4 := M3.out.trans (Mv.set (W := w3) (gp := gp) (vo' := .slice A5 (out.length + 1) c5) 0 (.slice A5 (out.length + 1) c5) rfl)
      go_meet
      exact ⟨by rw [hle], _, G2.out.step (by rw [bitB, hle]; exact hP4) hM4⟩
  case rest =>
    obtain ⟨rfl, v1, hG⟩ := hcut
    have G3 := Aside0.mk hG
    obtain ⟨le, hle⟩ : ∃ y, y = ordAt os k := ⟨_, rfl⟩
    rw [← hle] at G3 HE ⊢
    clear hG G2 hs0 hle
    have u0_ : IntKind.u64.wrap g.f0 = g.f0 := by rw [IntKind.wrap_u64]; omega
    have u1_ : IntKind.u64.wrap (g.f1.length : Int) = (g.f1.length : Int) := by rw [IntKind.wrap_u64]; omega
    have u2_ : IntKind.u64.wrap (g.f2.length : Int) = (g.f2.length : Int) := by rw [IntKind.wrap_u64]; omega
    have u3_ : IntKind.u64.wrap (g.f3.length : Int) = (g.f3.length : Int) := by rw [IntKind.wrap_u64]; omega
    have t0_ : u32 g.f0 = g.f0 := by unfold u32; rw [IntKind.wrap_u32]; omega
    have t1_ : u32 (g.f1.length : Int) = (g.f1.length : Int) := by unfold u32; rw [IntKind.wrap_u32]; omega
    have t2_ : u32 (g.f2.length : Int) = (g.f2.length : Int) := by unfold u32; rw [IntKind.wrap_u32]; omega
    have t3_ : u32 (g.f3.length : Int) = (g.f3.length : Int) := by unfold u32; rw [IntKind.wrap_u32]; omega
    rw [t0_, t1_, t2_, t3_] at HE
    clear t0_ t1_ t2_ t3_
    have z0_ : wc.cell? ⟨gb, 0, none⟩ = some (.int .i64 g.f0) := (blk_cell G3.out.b 0).trans rfl
    have z1_ : wc.cell? ⟨gb, 1, none⟩ = some (.slice A1 g.f1.length c1) := (blk_cell G3.out.b 1).trans rfl
    have z2_ : wc.cell? ⟨gb, 2, none⟩ = some (.slice A2 g.f2.length c2) := (blk_cell G3.out.b 2).trans rfl
    have z3_ : wc.cell? ⟨gb, 3, none⟩ = some (.slice A3 g.f3.length c3) := (blk_cell G3.out.b 3).trans rfl
    go_wp2_with fail
    have F0 := (G3.out.below (below_drew (Below.refl _ _))).fly
    refine start_ (n := 13) (S := fun w' => w'.cell? ⟨gp, 0, none⟩ = some v1 ∧ w'.cell? ⟨gb, 0, none⟩ = some (.int .i64 g.f0) ∧ w'.cell? ⟨gb, 1, none⟩ = some (.slice A1 g.f1.length c1) ∧ w'.cell? ⟨gb, 2, none⟩ = some (.slice A2 g.f2.length c2) ∧ w'.cell? ⟨gb, 3, none⟩ = some (.slice A3 g.f3.length c3) ∧ True) (ds := [12]) #[false, false, false, false, false, false, false, false, false, false, false, false, false] hmx rfl rfl ⟨(blk_cell F0.p 0).trans rfl, (blk_cell F0.b 0).trans rfl, (blk_cell F0.b 1).trans rfl, (blk_cell F0.b 2).trans rfl, (blk_cell F0.b 3).trans rfl, trivial⟩ (fun hHeld => ?_)
    generalize wc.drew = Wb at F0 hHeld ⊢
    (refine pure_ (i := 0) (N := some 28) (v := ?_) (a' := ?_) #[true, false, false, false, false, false, false, false, false, false, false, false, false] rfl rfl (by kernel_rfl) (fun _ _ _ h => h) (Or.inl ⟨by rfl, ?_⟩) ?_ ?_; rotate_left; (focus (intro w'_; go_simp; with_reducible rfl)); rotate_left; (focus (simp only [Act.put, List.setIfInBounds_toArray, List.set_cons_zero, List.set_cons_succ]; rfl)))
    (refine pure_ (i := 1) (N := some 29) (v := ?_) (a' := ?_) #[true, true, false, false, false, false, false, false, false, false, false, false, false] rfl rfl (by kernel_rfl) (fun _ _ _ h => h) (Or.inl ⟨by rfl, ?_⟩) ?_ ?_; rotate_left; (focus (intro w'_; go_simp; with_reducible rfl)); rotate_left; (focus (simp only [Act.put, List.setIfInBounds_toArray, List.set_cons_zero, List.set_cons_succ]; rfl)))
    (refine pure_ (i := 2) (N := some 30) (v := ?_) (a' := ?_) #[true, true, true, false, false, false, false, false, false, false, false, false, false] rfl rfl (by kernel_rfl) (fun _ _ _ h => h) (Or.inl ⟨by rfl, ?_⟩) ?_ ?_; rotate_left; (focus (intro w'_; go_simp; with_reducible rfl)); rotate_left; (focus (simp only [Act.put, List.setIfInBounds_toArray, List.set_cons_zero, List.set_cons_succ]; rfl)))
    (refine pure_ (i := 3) (N := some 31) (v := ?_) (a' := ?_) #[true, true, true, true, false, false, false, false, false, false, false, false, false] rfl rfl (by kernel_rfl) (fun _ _ _ h => h) (Or.inl ⟨by rfl, ?_⟩) ?_ ?_; rotate_left; (focus (intro w'_; go_simp; with_reducible rfl)); rotate_left; (focus (simp only [Act.put, List.setIfInBounds_toArray, List.set_cons_zero, List.set_cons_succ]; rfl)))
    (refine pure_ (i := 5) (N := some 33) (v := ?_) (a' := ?_) #[true, true, true, true, false, true, false, false, false, false, false, false, false] rfl rfl (by kernel_rfl) (fun _ _ _ h => h) (Or.inl ⟨by rfl, ?_⟩) ?_ ?_; rotate_left; (focus (intro w'_; go_simp; with_reducible rfl)); rotate_left; (focus (simp only [Act.put, List.setIfInBounds_toArray, List.set_cons_zero, List.set_cons_succ]; rfl)))
    (refine pure_ (i := 8) (N := some 36) (v := ?_) (a' := ?_) #[true, true, true, true, false, true, false, false, true, false, false, false, false] rfl rfl (by kernel_rfl) (fun _ _ _ h => h) (Or.inl ⟨by rfl, ?_⟩) ?_ ?_; rotate_left; (focus (intro w'_; go_simp; with_reducible rfl)); rotate_left; (focus (simp only [Act.put, List.setIfInBounds_toArray, List.set_cons_zero, List.set_cons_succ]; rfl)))
    (refine take_ (i := 4) (N := some 32) (v := ?_) (a' := ?_) #[true, true, true, true, true, true, false, false, true, false, false, false, false] rfl rfl (by kernel_rfl) (fun _ _ _ h => h) (Or.inl ⟨by rfl, ?_⟩) hHeld ?_ ?_; rotate_left; (focus (intro w'_ hs_; (repeat obtain ⟨_, hs_⟩ := hs_); go_simp; with_reducible rfl)); rotate_left; (focus (simp only [Act.put, List.setIfInBounds_toArray, List.set_cons_zero, List.set_cons_succ]; rfl)))
    (refine take_ (i := 6) (N := some 34) (v := ?_) (a' := ?_) #[true, true, true, true, true, true, true, false, true, false, false, false, false] rfl rfl (by kernel_rfl) (fun _ _ _ h => h) (Or.inl ⟨by rfl, ?_⟩) hHeld ?_ ?_; rotate_left; (focus (intro w'_ hs_; (repeat obtain ⟨_, hs_⟩ := hs_); go_simp; with_reducible rfl)); rotate_left; (focus (simp only [Act.put, List.setIfInBounds_toArray, List.set_cons_zero, List.set_cons_succ]; rfl)))
    (refine pure_ (i := 7) (N := some 35) (v := ?_) (a' := ?_) #[true, true, true, true, true, true, true, true, true, false, false, false, false] rfl rfl (by kernel_rfl) (fun _ _ _ h => h) (Or.inl ⟨by rfl, ?_⟩) ?_ ?_; rotate_left; (focus (intro w'_; go_simp; with_reducible rfl)); rotate_left; (focus (simp only [Act.put, List.setIfInBounds_toArray, List.set_cons_zero, List.set_cons_succ]; rfl)))
    refine one_ (i := 9) (N := some 37) #[true, true, true, true, true, true, true, true, true, true, false, false, false] rfl rfl (by kernel_rfl) (by decide) (fun K hK => ?_)
    refine goes_ Tryd.func68 (by kernel_rfl) rfl #[v1, .int .u64 g.f0, .int .i64 4, .bool le] (by rfl) rfl rfl (by (try simp only [List.map_toArray, List.map_cons, List.map_nil]); first | done | rfl) ?_
    refine (put4_ok v1 _ g.f0 le w0 Wb F0.r (by simp only [List.length_append, P32_len, bitB, List.length_singleton]; omega)).mono ?_
    rintro e w1 ⟨u1, rfl, hr1, hv1⟩
    have F1 := F0.step hr1 hv1
    obtain ⟨A5a, c5a, e5⟩ := Kd.R_slice F1.r.r
    subst e5
    obtain ⟨n5a, hn5⟩ : ∃ y, y = List.length ((out ++ bitB le) ++ P32 g.f0 le) := ⟨_, rfl⟩
    rw [← hn5] at F1 ⊢
    clear hn5
    refine ⟨_, rfl, hK.out _ _ ⟨(blk_cell F1.p 0).trans rfl, (blk_cell F1.b 0).trans rfl, (blk_cell F1.b 1).trans rfl, (blk_cell F1.b 2).trans rfl, (blk_cell F1.b 3).trans rfl, trivial⟩ (fun hHeld1 => ?_)⟩
    clear hK K hHeld hr1 hv1 F0
    (refine norm_ (a' := ?_) ?_ ?_; rotate_left; focus (show Act.put _ (some 37) _ = _; simp only [Act.put, List.setIfInBounds_toArray, List.set_cons_zero, List.set_cons_succ]; rfl))
    (refine pure_ (i := 10) (N := some 38) (v := ?_) (a' := ?_) #[true, true, true, true, true, true, true, true, true, true, true, false, false] rfl rfl (by kernel_rfl) (fun _ _ _ h => h) (Or.inl ⟨by rfl, ?_⟩) ?_ ?_; rotate_left; (focus (intro w'_; go_simp; with_reducible rfl)); rotate_left; (focus (simp only [Act.put, List.setIfInBounds_toArray, List.set_cons_zero, List.set_cons_succ]; rfl)))
    (refine pure_ (i := 11) (N := some 39) (v := ?_) (a' := ?_) #[true, true, true, true, true, true, true, true, true, true, true, true, false] rfl rfl (by kernel_rfl) (fun _ _ _ h => h) (Or.inl ⟨by rfl, ?_⟩) ?_ ?_; rotate_left; (focus (intro w'_; go_simp; with_reducible rfl)); rotate_left; (focus (simp only [Act.put, List.setIfInBounds_toArray, List.set_cons_zero, List.set_cons_succ]; rfl)))
    refine last_ (i := 12) (N := none) #[true, true, true, true, true, true, true, true, true, true, true, true, true] rfl rfl (by kernel_rfl) (by decide) (fun K hK => ?_)
    have hs0 : w1.cell? ⟨gp, 0, none⟩ = some v1 := (blk_cell F1.p 0).trans rfl
    have hf0 := blk_frozen F1.p 0
    refine skip_ (w1 := ?_) (by rfl) rfl ?_ ?_
    rotate_left
    · go_simp
      rfl
    refine hK.out _ _ ?_
    clear hK K
    refine done_ (by kernel_rfl) ?_
    have G4 := Aside0.mk F1.land
    obtain ⟨w4, hw5⟩ : ∃ y, y = w1.setCell ⟨gp, 0, none⟩ (.slice A5a n5a c5a) := ⟨_, rfl⟩
    rw [← hw5] at G4 ⊢
    clear hw5
    clear F1 hs0 hf0 hHeld1 G3
    clear z0_ z1_ z2_ z3_
    have z0_ : w4.cell? ⟨gb, 0, none⟩ = some (.int .i64 g.f0) := (blk_cell G4.out.b 0).trans rfl
    have z1_ : w4.cell? ⟨gb, 1, none⟩ = some (.slice A1 g.f1.length c1) := (blk_cell G4.out.b 1).trans rfl
    have z2_ : w4.cell? ⟨gb, 2, none⟩ = some (.slice A2 g.f2.length c2) := (blk_cell G4.out.b 2).trans rfl
    have z3_ : w4.cell? ⟨gb, 3, none⟩ = some (.slice A3 g.f3.length c3) := (blk_cell G4.out.b 3).trans rfl
    obtain ⟨o4, ho4⟩ : ∃ y, y = (out ++ bitB le) ++ P32 g.f0 le := ⟨_, rfl⟩
    obtain ⟨v4, hv4⟩ : ∃ y, y = Value.slice A5a n5a c5a := ⟨_, rfl⟩
    have ho4l : o4.length = out.length + 5 := by rw [ho4]; simp only [List.length_append, P32_len, bitB, List.length_singleton]
    rw [← hv4, ← ho4] at G4
    have HO4 := Aside0.mk (And.intro ho4 ho4l)
    have ho4m : o4.length ≤ out.length + 5 := by omega
    clear hv4 ho4 ho4l
    by_cases k1 : g.f0 = 1
    · have k1' : (g.f0 == 1) = true := by rw [k1]; rfl
      rw [if_pos k1] at HE
      rw [if_pos (.inl k1)] at HN
      by_cases e1 : g.f1.length = 0
      · rw [if_pos e1] at HE
        have s0_ : w4.cell? ⟨gp, 0, none⟩ = some v4 := (blk_cell G4.out.P.c 0).trans rfl
        go_wp2_with fail
        have F0 := G4.out.fly
        refine (put8_ok v4 o4 9221120237041090560 le w0 w4 F0.r (by omega)).mono ?_
        rintro e w5 ⟨u5, rfl, hr5, hv5⟩
        have F5 := Aside0.mk (F0.step hr5 hv5)
        clear F0 hr5 hv5 s0_ z0_ z1_ z2_ z3_
        go_wp2_with fail
        refine (put8_ok u5 (o4 ++ P64 [] 9221120237041090560 le) 9221120237041090560 le w0 w5 F5.out.r (by rw [List.length_append, P64_len]; simp only [List.length_nil]; omega)).mono ?_
        rintro e w6 ⟨u6, rfl, hr6, hv6⟩
        have F6 := Aside0.mk (F5.out.step hr6 hv6)
        clear hr6 hv6 F5
        obtain ⟨A7, c7, e7⟩ := Kd.R_slice F6.out.r.r
        subst e7
        have s0_ : w6.cell? ⟨gp, 0, none⟩ = some v4 := (blk_cell F6.out.p 0).trans rfl
        have f0_ := blk_frozen F6.out.p 0
        go_wp2_with fail
        have G7 := Aside0.mk F6.out.land
        simp only [List.length_append, Nat.add_assoc] at G7
        obtain ⟨w7, hw7⟩ : ∃ y, y = w6.setCell ⟨gp, 0, none⟩ (.slice A7 (o4.length + ((P64 [] 9221120237041090560 le).length + (P64 [] 9221120237041090560 le).length)) c7) := ⟨_, rfl⟩
        rw [← hw7] at G7 ⊢
        obtain ⟨v7, hv7⟩ : ∃ y, y = Value.slice A7 (o4.length + ((P64 [] 9221120237041090560 le).length + (P64 [] 9221120237041090560 le).length)) c7 := ⟨_, rfl⟩
        rw [← hv7] at G7
        have E1 := Aside0.mk e1
        clear hw7 hv7 s0_ f0_ F6 e1 k1 k1'

        have z0_ : w7.cell? ⟨gb, 0, none⟩ = some (.int .i64 g.f0) := (blk_cell G7.out.b 0).trans rfl
        have z1_ : w7.cell? ⟨gb, 1, none⟩ = some (.slice A1 g.f1.length c1) := (blk_cell G7.out.b 1).trans rfl
        have z2_ : w7.cell? ⟨gb, 2, none⟩ = some (.slice A2 g.f2.length c2) := (blk_cell G7.out.b 2).trans rfl
        have z3_ : w7.cell? ⟨gb, 3, none⟩ = some (.slice A3 g.f3.length c3) := (blk_cell G7.out.b 3).trans rfl
        have F0 := (G7.out.below (below_drew (Below.refl _ _))).fly
        refine start_ (n := 12) (S := fun w' => w'.cell? ⟨gp, 0, none⟩ = some v7 ∧ w'.cell? ⟨gb, 0, none⟩ = some (.int .i64 g.f0) ∧ w'.cell? ⟨gb, 1, none⟩ = some (.slice A1 g.f1.length c1) ∧ w'.cell? ⟨gb, 2, none⟩ = some (.slice A2 g.f2.length c2) ∧ w'.cell? ⟨gb, 3, none⟩ = some (.slice A3 g.f3.length c3) ∧ True) (ds := [11]) #[false, false, false, false, false, false, false, false, false, false, false, false] hmx rfl rfl ⟨(blk_cell F0.p 0).trans rfl, (blk_cell F0.b 0).trans rfl, (blk_cell F0.b 1).trans rfl, (blk_cell F0.b 2).trans rfl, (blk_cell F0.b 3).trans rfl, trivial⟩ (fun hHeld => ?_)
        generalize w7.drew = Wb at F0 hHeld ⊢
        (refine pure_ (i := 0) (N := some 86) (v := ?_) (a' := ?_) #[true, false, false, false, false, false, false, false, false, false, false, false] rfl rfl (by kernel_rfl) (fun _ _ _ h => h) (Or.inl ⟨by rfl, ?_⟩) ?_ ?_; rotate_left; (focus (intro w'_; go_simp; with_reducible rfl)); rotate_left; (focus (simp only [Act.put, List.setIfInBounds_toArray, List.set_cons_zero, List.set_cons_succ]; rfl)))
        (refine pure_ (i := 1) (N := some 87) (v := ?_) (a' := ?_) #[true, true, false, false, false, false, false, false, false, false, false, false] rfl rfl (by kernel_rfl) (fun _ _ _ h => h) (Or.inl ⟨by rfl, ?_⟩) ?_ ?_; rotate_left; (focus (intro w'_; go_simp; with_reducible rfl)); rotate_left; (focus (simp only [Act.put, List.setIfInBounds_toArray, List.set_cons_zero, List.set_cons_succ]; rfl)))
        (refine pure_ (i := 2) (N := some 88) (v := ?_) (a' := ?_) #[true, true, true, false, false, false, false, false, false, false, false, false] rfl rfl (by kernel_rfl) (fun _ _ _ h => h) (Or.inl ⟨by rfl, ?_⟩) ?_ ?_; rotate_left; (focus (intro w'_; go_simp; with_reducible rfl)); rotate_left; (focus (simp only [Act.put, List.setIfInBounds_toArray, List.set_cons_zero, List.set_cons_succ]; rfl)))
        (refine pure_ (i := 3) (N := some 89) (v := ?_) (a' := ?_) #[true, true, true, true, false, false, false, false, false, false, false, false] rfl rfl (by kernel_rfl) (fun _ _ _ h => h) (Or.inl ⟨by rfl, ?_⟩) ?_ ?_; rotate_left; (focus (intro w'_; go_simp; with_reducible rfl)); rotate_left; (focus (simp only [Act.put, List.setIfInBounds_toArray, List.set_cons_zero, List.set_cons_succ]; rfl)))
        (refine pure_ (i := 5) (N := some 91) (v := ?_) (a' := ?_) #[true, true, true, true, false, true, false, false, false, false, false, false] rfl rfl (by kernel_rfl) (fun _ _ _ h => h) (Or.inl ⟨by rfl, ?_⟩) ?_ ?_; rotate_left; (focus (intro w'_; go_simp; with_reducible rfl)); rotate_left; (focus (simp only [Act.put, List.setIfInBounds_toArray, List.set_cons_zero, List.set_cons_succ]; rfl)))
        (refine pure_ (i := 7) (N := some 93) (v := ?_) (a' := ?_) #[true, true, true, true, false, true, false, true, false, false, false, false] rfl rfl (by kernel_rfl) (fun _ _ _ h => h) (Or.inl ⟨by rfl, ?_⟩) ?_ ?_; rotate_left; (focus (intro w'_; go_simp; with_reducible rfl)); rotate_left; (focus (simp only [Act.put, List.setIfInBounds_toArray, List.set_cons_zero, List.set_cons_succ]; rfl)))
        (refine take_ (i := 4) (N := some 90) (v := ?_) (a' := ?_) #[true, true, true, true, true, true, false, true, false, false, false, false] rfl rfl (by kernel_rfl) (fun _ _ _ h => h) (Or.inl ⟨by rfl, ?_⟩) hHeld ?_ ?_; rotate_left; (focus (intro w'_ hs_; (repeat obtain ⟨_, hs_⟩ := hs_); go_simp; with_reducible rfl)); rotate_left; (focus (simp only [Act.put, List.setIfInBounds_toArray, List.set_cons_zero, List.set_cons_succ]; rfl)))
        (refine take_ (i := 6) (N := some 92) (v := ?_) (a' := ?_) #[true, true, true, true, true, true, true, true, false, false, false, false] rfl rfl (by kernel_rfl) (fun _ _ _ h => h) (Or.inl ⟨by rfl, ?_⟩) hHeld ?_ ?_; rotate_left; (focus (intro w'_ hs_; (repeat obtain ⟨_, hs_⟩ := hs_); go_simp; with_reducible rfl)); rotate_left; (focus (simp only [Act.put, List.setIfInBounds_toArray, List.set_cons_zero, List.set_cons_succ]; rfl)))
        refine one_ (i := 8) (N := some 94) #[true, true, true, true, true, true, true, true, true, false, false, false] rfl rfl (by kernel_rfl) (by decide) (fun K hK => ?_)
        refine goes_ Tryd.func69 (by kernel_rfl) rfl #[v7, .slice A1 g.f1.length c1, .bool le] (by rfl) rfl rfl (by (try simp only [List.map_toArray, List.map_cons, List.map_nil]); first | done | rfl) ?_
        refine (pairs_ok v7 _ A1 c1 g.f1 le w0 Wb F0.r H1.out (by simp only [List.length_append, P64_len, List.length_nil]; omega)).mono ?_
        rintro e w1 ⟨u1, rfl, hr1, hv1⟩
        have F1 := F0.step hr1 hv1
        obtain ⟨A5b, c5b, e5⟩ := Kd.R_slice F1.r.r
        subst e5
        obtain ⟨n5b, hn5⟩ : ∃ y, y = List.length (((o4 ++ P64 [] 9221120237041090560 le) ++ P64 [] 9221120237041090560 le) ++ ptsB le g.f1) := ⟨_, rfl⟩
        rw [← hn5] at F1 ⊢
        clear hn5
        refine ⟨_, rfl, hK.out _ _ ⟨(blk_cell F1.p 0).trans rfl, (blk_cell F1.b 0).trans rfl, (blk_cell F1.b 1).trans rfl, (blk_cell F1.b 2).trans rfl, (blk_cell F1.b 3).trans rfl, trivial⟩ (fun hHeld1 => ?_)⟩
        clear hK K hHeld hr1 hv1 F0
        (refine norm_ (a' := ?_) ?_ ?_; rotate_left; focus (show Act.put _ (some 94) _ = _; simp only [Act.put, List.setIfInBounds_toArray, List.set_cons_zero, List.set_cons_succ]; rfl))
        (refine pure_ (i := 9) (N := some 95) (v := ?_) (a' := ?_) #[true, true, true, true, true, true, true, true, true, true, false, false] rfl rfl (by kernel_rfl) (fun _ _ _ h => h) (Or.inl ⟨by rfl, ?_⟩) ?_ ?_; rotate_left; (focus (intro w'_; go_simp; with_reducible rfl)); rotate_left; (focus (simp only [Act.put, List.setIfInBounds_toArray, List.set_cons_zero, List.set_cons_succ]; rfl)))
        (refine pure_ (i := 10) (N := some 96) (v := ?_) (a' := ?_) #[true, true, true, true, true, true, true, true, true, true, true, false] rfl rfl (by kernel_rfl) (fun _ _ _ h => h) (Or.inl ⟨by rfl, ?_⟩) ?_ ?_; rotate_left; (focus (intro w'_; go_simp; with_reducible rfl)); rotate_left; (focus (simp only [Act.put, List.setIfInBounds_toArray, List.set_cons_zero, List.set_cons_succ]; rfl)))
        refine last_ (i := 11) (N := none) #[true, true, true, true, true, true, true, true, true, true, true, true] rfl rfl (by kernel_rfl) (by decide) (fun K hK => ?_)
        have hs0 : w1.cell? ⟨gp, 0, none⟩ = some v7 := (blk_cell F1.p 0).trans rfl
        have hf0 := blk_frozen F1.p 0
        refine skip_ (w1 := ?_) (by rfl) rfl ?_ ?_
        rotate_left
        · go_simp
          rfl
        refine hK.out _ _ ?_
        clear hK K
        refine done_ (by kernel_rfl) ?_
        have G8 := Aside0.mk F1.land
        obtain ⟨w8, hw5⟩ : ∃ y, y = w1.setCell ⟨gp, 0, none⟩ (.slice A5b n5b c5b) := ⟨_, rfl⟩
        rw [← hw5] at G8 ⊢
        clear hw5
        clear F1 hs0 hf0 hHeld1 G7
        go_wp2_with fail
        refine bodyPost_end (results_none rfl _ _ _) rfl ?_
        exact ⟨rfl, _, by
          rw [HN.out, HE.out]
          have h9 := G8.out.P
          have e0 : g.f1 = [] := List.eq_nil_of_length_eq_zero E1.out
          rw [HO4.out.1, e0] at h9
          have e9 : ptsB le [nanP] = P64 [] 9221120237041090560 le ++ P64 [] 9221120237041090560 le := by
            unfold ptsB
            rw [List.flatMap_cons, List.flatMap_nil, List.append_nil, P64_app]
            rfl
          have e8 : ptsB le [] = [] := rfl
          rw [e8, List.append_nil] at h9
          rw [e9]
          simp only [List.append_assoc] at h9 ⊢
          exact h9, G8.out.M⟩
      · rw [if_neg e1] at HE
        have e1' : ¬ ((g.f1.length : Int) = 0) := by omega
        have e1b : ((g.f1.length : Int) == 0) = false := beq_eq_false_iff_ne.2 e1'
        go_wp2_with fail
        clear e1 e1' e1b k1 k1'
        have F0 := (G4.out.below (below_drew (Below.refl _ _))).fly
        refine start_ (n := 12) (S := fun w' => w'.cell? ⟨gp, 0, none⟩ = some v4 ∧ w'.cell? ⟨gb, 0, none⟩ = some (.int .i64 g.f0) ∧ w'.cell? ⟨gb, 1, none⟩ = some (.slice A1 g.f1.length c1) ∧ w'.cell? ⟨gb, 2, none⟩ = some (.slice A2 g.f2.length c2) ∧ w'.cell? ⟨gb, 3, none⟩ = some (.slice A3 g.f3.length c3) ∧ True) (ds := [11]) #[false, false, false, false, false, false, false, false, false, false, false, false] hmx rfl rfl ⟨(blk_cell F0.p 0).trans rfl, (blk_cell F0.b 0).trans rfl, (blk_cell F0.b 1).trans rfl, (blk_cell F0.b 2).trans rfl, (blk_cell F0.b 3).trans rfl, trivial⟩ (fun hHeld => ?_)
        generalize w4.drew = Wb at F0 hHeld ⊢
        (refine pure_ (i := 0) (N := some 86) (v := ?_) (a' := ?_) #[true, false, false, false, false, false, false, false, false, false, false, false] rfl rfl (by kernel_rfl) (fun _ _ _ h => h) (Or.inl ⟨by rfl, ?_⟩) ?_ ?_; rotate_left; (focus (intro w'_; go_simp; with_reducible rfl)); rotate_left; (focus (simp only [Act.put, List.setIfInBounds_toArray, List.set_cons_zero, List.set_cons_succ]; rfl)))
        (refine pure_ (i := 1) (N := some 87) (v := ?_) (a' := ?_) #[true, true, false, false, false, false, false, false, false, false, false, false] rfl rfl (by kernel_rfl) (fun _ _ _ h => h) (Or.inl ⟨by rfl, ?_⟩) ?_ ?_; rotate_left; (focus (intro w'_; go_simp; with_reducible rfl)); rotate_left; (focus (simp only [Act.put, List.setIfInBounds_toArray, List.set_cons_zero, List.set_cons_succ]; rfl)))
        (refine pure_ (i := 2) (N := some 88) (v := ?_) (a' := ?_) #[true, true, true, false, false, false, false, false, false, false, false, false] rfl rfl (by kernel_rfl) (fun _ _ _ h => h) (Or.inl ⟨by rfl, ?_⟩) ?_ ?_; rotate_left; (focus (intro w'_; go_simp; with_reducible rfl)); rotate_left; (focus (simp only [Act.put, List.setIfInBounds_toArray, List.set_cons_zero, List.set_cons_succ]; rfl)))
        (refine pure_ (i := 3) (N := some 89) (v := ?_) (a' := ?_) #[true, true, true, true, false, false, false, false, false, false, false, false] rfl rfl (by kernel_rfl) (fun _ _ _ h => h) (Or.inl ⟨by rfl, ?_⟩) ?_ ?_; rotate_left; (focus (intro w'_; go_simp; with_reducible rfl)); rotate_left; (focus (simp only [Act.put, List.setIfInBounds_toArray, List.set_cons_zero, List.set_cons_succ]; rfl)))
        (refine pure_ (i := 5) (N := some 91) (v := ?_) (a' := ?_) #[true, true, true, true, false, true, false, false, false, false, false, false] rfl rfl (by kernel_rfl) (fun _ _ _ h => h) (Or.inl ⟨by rfl, ?_⟩) ?_ ?_; rotate_left; (focus (intro w'_; go_simp; with_reducible rfl)); rotate_left; (focus (simp only [Act.put, List.setIfInBounds_toArray, List.set_cons_zero, List.set_cons_succ]; rfl)))
        (refine pure_ (i := 7) (N := some 93) (v := ?_) (a' := ?_) #[true, true, true, true, false, true, false, true, false, false, false, false] rfl rfl (by kernel_rfl) (fun _ _ _ h => h) (Or.inl ⟨by rfl, ?_⟩) ?_ ?_; rotate_left; (focus (intro w'_; go_simp; with_reducible rfl)); rotate_left; (focus (simp only [Act.put, List.setIfInBounds_toArray, List.set_cons_zero, List.set_cons_succ]; rfl)))
        (refine take_ (i := 4) (N := some 90) (v := ?_) (a' := ?_) #[true, true, true, true, true, true, false, true, false, false, false, false] rfl rfl (by kernel_rfl) (fun _ _ _ h => h) (Or.inl ⟨by rfl, ?_⟩) hHeld ?_ ?_; rotate_left; (focus (intro w'_ hs_; (repeat obtain ⟨_, hs_⟩ := hs_); go_simp; with_reducible rfl)); rotate_left; (focus (simp only [Act.put, List.setIfInBounds_toArray, List.set_cons_zero, List.set_cons_succ]; rfl)))
        (refine take_ (i := 6) (N := some 92) (v := ?_) (a' := ?_) #[true, true, true, true, true, true, true, true, false, false, false, false] rfl rfl (by kernel_rfl) (fun _ _ _ h => h) (Or.inl ⟨by rfl, ?_⟩) hHeld ?_ ?_; rotate_left; (focus (intro w'_ hs_; (repeat obtain ⟨_, hs_⟩ := hs_); go_simp; with_reducible rfl)); rotate_left; (focus (simp only [Act.put, List.setIfInBounds_toArray, List.set_cons_zero, List.set_cons_succ]; rfl)))
        refine one_ (i := 8) (N := some 94) #[true, true, true, true, true, true, true, true, true, false, false, false] rfl rfl (by kernel_rfl) (by decide) (fun K hK => ?_)
        refine goes_ Tryd.func69 (by kernel_rfl) rfl #[v4, .slice A1 g.f1.length c1, .bool le] (by rfl) rfl rfl (by (try simp only [List.map_toArray, List.map_cons, List.map_nil]); first | done | rfl) ?_
        refine (pairs_ok v4 _ A1 c1 g.f1 le w0 Wb F0.r H1.out (by omega)).mono ?_
        rintro e w1 ⟨u1, rfl, hr1, hv1⟩
        have F1 := F0.step hr1 hv1
        obtain ⟨A5b, c5b, e5⟩ := Kd.R_slice F1.r.r
        subst e5
        obtain ⟨n5b, hn5⟩ : ∃ y, y = List.length (o4 ++ ptsB le g.f1) := ⟨_, rfl⟩
        rw [← hn5] at F1 ⊢
        clear hn5
        refine ⟨_, rfl, hK.out _ _ ⟨(blk_cell F1.p 0).trans rfl, (blk_cell F1.b 0).trans rfl, (blk_cell F1.b 1).trans rfl, (blk_cell F1.b 2).trans rfl, (blk_cell F1.b 3).trans rfl, trivial⟩ (fun hHeld1 => ?_)⟩
        clear hK K hHeld hr1 hv1 F0
        (refine norm_ (a' := ?_) ?_ ?_; rotate_left; focus (show Act.put _ (some 94) _ = _; simp only [Act.put, List.setIfInBounds_toArray, List.set_cons_zero, List.set_cons_succ]; rfl))
        (refine pure_ (i := 9) (N := some 95) (v := ?_) (a' := ?_) #[true, true, true, true, true, true, true, true, true, true, false, false] rfl rfl (by kernel_rfl) (fun _ _ _ h => h) (Or.inl ⟨by rfl, ?_⟩) ?_ ?_; rotate_left; (focus (intro w'_; go_simp; with_reducible rfl)); rotate_left; (focus (simp only [Act.put, List.setIfInBounds_toArray, List.set_cons_zero, List.set_cons_succ]; rfl)))
        (refine pure_ (i := 10) (N := some 96) (v := ?_) (a' := ?_) #[true, true, true, true, true, true, true, true, true, true, true, false] rfl rfl (by kernel_rfl) (fun _ _ _ h => h) (Or.inl ⟨by rfl, ?_⟩) ?_ ?_; rotate_left; (focus (intro w'_; go_simp; with_reducible rfl)); rotate_left; (focus (simp only [Act.put, List.setIfInBounds_toArray, List.set_cons_zero, List.set_cons_succ]; rfl)))
        refine last_ (i := 11) (N := none) #[true, true, true, true, true, true, true, true, true, true, true, true] rfl rfl (by kernel_rfl) (by decide) (fun K hK => ?_)
        have hs0 : w1.cell? ⟨gp, 0, none⟩ = some v4 := (blk_cell F1.p 0).trans rfl
        have hf0 := blk_frozen F1.p 0
        refine skip_ (w1 := ?_) (by rfl) rfl ?_ ?_
        rotate_left
        · go_simp
          rfl
        refine hK.out _ _ ?_
        clear hK K
        refine done_ (by kernel_rfl) ?_
        have G8 := Aside0.mk F1.land
        obtain ⟨w8, hw5⟩ : ∃ y, y = w1.setCell ⟨gp, 0, none⟩ (.slice A5b n5b c5b) := ⟨_, rfl⟩
        rw [← hw5] at G8 ⊢
        clear hw5
        clear F1 hs0 hf0 hHeld1 G4
        go_wp2_with fail
        refine bodyPost_end (results_none rfl _ _ _) rfl ?_
        exact ⟨rfl, _, by
          rw [HN.out, HE.out]
          have h9 := G8.out.P
          rw [HO4.out.1] at h9
          simp only [List.append_assoc] at h9 ⊢
          exact h9, G8.out.M⟩
    have k1' : (g.f0 == 1) = false := beq_eq_false_iff_ne.2 k1
    rw [if_neg k1] at HE
    by_cases k2 : g.f0 = 2
    · have k2' : (g.f0 == 2) = true := by rw [k2]; rfl
      rw [if_pos k2] at HE
      rw [if_pos (.inr (.inl k2))] at HN
      go_wp2_with fail
      clear k1 k1' k2 k2'
      have F0 := (G4.out.below (below_drew (Below.refl _ _))).fly
      refine start_ (n := 18) (S := fun w' => w'.cell? ⟨gp, 0, none⟩ = some v4 ∧ w'.cell? ⟨gb, 0, none⟩ = some (.int .i64 g.f0) ∧ w'.cell? ⟨gb, 1, none⟩ = some (.slice A1 g.f1.length c1) ∧ w'.cell? ⟨gb, 2, none⟩ = some (.slice A2 g.f2.length c2) ∧ w'.cell? ⟨gb, 3, none⟩ = some (.slice A3 g.f3.length c3) ∧ True) (ds := [17]) #[false, false, false, false, false, false, false, false, false, false, false, false, false, false, false, false, false, false] hmx rfl rfl ⟨(blk_cell F0.p 0).trans rfl, (blk_cell F0.b 0).trans rfl, (blk_cell F0.b 1).trans rfl, (blk_cell F0.b 2).trans rfl, (blk_cell F0.b 3).trans rfl, trivial⟩ (fun hHeld => ?_)
      generalize w4.drew = Wb at F0 hHeld ⊢
      (refine pure_ (i := 0) (N := some 99) (v := ?_) (a' := ?_) #[true, false, false, false, false, false, false, false, false, false, false, false, false, false, false, false, false, false] rfl rfl (by kernel_rfl) (fun _ _ _ h => h) (Or.inl ⟨by rfl, ?_⟩) ?_ ?_; rotate_left; (focus (intro w'_; go_simp; with_reducible rfl)); rotate_left; (focus (simp only [Act.put, List.setIfInBounds_toArray, List.set_cons_zero, List.set_cons_succ]; rfl)))
      (refine pure_ (i := 1) (N := some 100) (v := ?_) (a' := ?_) #[true, true, false, false, false, false, false, false, false, false, false, false, false, false, false, false, false, false] rfl rfl (by kernel_rfl) (fun _ _ _ h => h) (Or.inl ⟨by rfl, ?_⟩) ?_ ?_; rotate_left; (focus (intro w'_; go_simp; with_reducible rfl)); rotate_left; (focus (simp only [Act.put, List.setIfInBounds_toArray, List.set_cons_zero, List.set_cons_succ]; rfl)))
      (refine pure_ (i := 2) (N := some 101) (v := ?_) (a' := ?_) #[true, true, true, false, false, false, false, false, false, false, false, false, false, false, false, false, false, false] rfl rfl (by kernel_rfl) (fun _ _ _ h => h) (Or.inl ⟨by rfl, ?_⟩) ?_ ?_; rotate_left; (focus (intro w'_; go_simp; with_reducible rfl)); rotate_left; (focus (simp only [Act.put, List.setIfInBounds_toArray, List.set_cons_zero, List.set_cons_succ]; rfl)))
      (refine pure_ (i := 3) (N := some 102) (v := ?_) (a' := ?_) #[true, true, true, true, false, false, false, false, false, false, false, false, false, false, false, false, false, false] rfl rfl (by kernel_rfl) (fun _ _ _ h => h) (Or.inl ⟨by rfl, ?_⟩) ?_ ?_; rotate_left; (focus (intro w'_; go_simp; with_reducible rfl)); rotate_left; (focus (simp only [Act.put, List.setIfInBounds_toArray, List.set_cons_zero, List.set_cons_succ]; rfl)))
      (refine pure_ (i := 5) (N := some 104) (v := ?_) (a' := ?_) #[true, true, true, true, false, true, false, false, false, false, false, false, false, false, false, false, false, false] rfl rfl (by kernel_rfl) (fun _ _ _ h => h) (Or.inl ⟨by rfl, ?_⟩) ?_ ?_; rotate_left; (focus (intro w'_; go_simp; with_reducible rfl)); rotate_left; (focus (simp only [Act.put, List.setIfInBounds_toArray, List.set_cons_zero, List.set_cons_succ]; rfl)))
      (refine pure_ (i := 9) (N := some 108) (v := ?_) (a' := ?_) #[true, true, true, true, false, true, false, false, false, true, false, false, false, false, false, false, false, false] rfl rfl (by kernel_rfl) (fun _ _ _ h => h) (Or.inl ⟨by rfl, ?_⟩) ?_ ?_; rotate_left; (focus (intro w'_; go_simp; with_reducible rfl)); rotate_left; (focus (simp only [Act.put, List.setIfInBounds_toArray, List.set_cons_zero, List.set_cons_succ]; rfl)))
      (refine pure_ (i := 11) (N := some 110) (v := ?_) (a' := ?_) #[true, true, true, true, false, true, false, false, false, true, false, true, false, false, false, false, false, false] rfl rfl (by kernel_rfl) (fun _ _ _ h => h) (Or.inl ⟨by rfl, ?_⟩) ?_ ?_; rotate_left; (focus (intro w'_; go_simp; with_reducible rfl)); rotate_left; (focus (simp only [Act.put, List.setIfInBounds_toArray, List.set_cons_zero, List.set_cons_succ]; rfl)))
      (refine pure_ (i := 13) (N := some 112) (v := ?_) (a' := ?_) #[true, true, true, true, false, true, false, false, false, true, false, true, false, true, false, false, false, false] rfl rfl (by kernel_rfl) (fun _ _ _ h => h) (Or.inl ⟨by rfl, ?_⟩) ?_ ?_; rotate_left; (focus (intro w'_; go_simp; with_reducible rfl)); rotate_left; (focus (simp only [Act.put, List.setIfInBounds_toArray, List.set_cons_zero, List.set_cons_succ]; rfl)))
      (refine take_ (i := 4) (N := some 103) (v := ?_) (a' := ?_) #[true, true, true, true, true, true, false, false, false, true, false, true, false, true, false, false, false, false] rfl rfl (by kernel_rfl) (fun _ _ _ h => h) (Or.inl ⟨by rfl, ?_⟩) hHeld ?_ ?_; rotate_left; (focus (intro w'_ hs_; (repeat obtain ⟨_, hs_⟩ := hs_); go_simp; with_reducible rfl)); rotate_left; (focus (simp only [Act.put, List.setIfInBounds_toArray, List.set_cons_zero, List.set_cons_succ]; rfl)))
      (refine take_ (i := 6) (N := some 105) (v := ?_) (a' := ?_) #[true, true, true, true, true, true, true, false, false, true, false, true, false, true, false, false, false, false] rfl rfl (by kernel_rfl) (fun _ _ _ h => h) (Or.inl ⟨by rfl, ?_⟩) hHeld ?_ ?_; rotate_left; (focus (intro w'_ hs_; (repeat obtain ⟨_, hs_⟩ := hs_); go_simp; with_reducible rfl)); rotate_left; (focus (simp only [Act.put, List.setIfInBounds_toArray, List.set_cons_zero, List.set_cons_succ]; rfl)))
      (refine pure_ (i := 7) (N := some 106) (v := ?_) (a' := ?_) #[true, true, true, true, true, true, true, true, false, true, false, true, false, true, false, false, false, false] rfl rfl (by kernel_rfl) (fun _ _ _ h => h) (Or.inl ⟨by rfl, ?_⟩) ?_ ?_; rotate_left; (focus (intro w'_; go_simp; with_reducible rfl)); rotate_left; (focus (simp only [Act.put, List.setIfInBounds_toArray, List.set_cons_zero, List.set_cons_succ]; rfl)))
      (refine pure_ (i := 8) (N := some 107) (v := ?_) (a' := ?_) #[true, true, true, true, true, true, true, true, true, true, false, true, false, true, false, false, false, false] rfl rfl (by kernel_rfl) (fun _ _ _ h => h) (Or.inl ⟨by rfl, ?_⟩) ?_ ?_; rotate_left; (focus (intro w'_; go_simp; with_reducible rfl)); rotate_left; (focus (simp only [Act.put, List.setIfInBounds_toArray, List.set_cons_zero, List.set_cons_succ]; rfl)))
      (refine take_ (i := 12) (N := some 111) (v := ?_) (a' := ?_) #[true, true, true, true, true, true, true, true, true, true, false, true, true, true, false, false, false, false] rfl rfl (by kernel_rfl) (fun _ _ _ h => h) (Or.inl ⟨by rfl, ?_⟩) hHeld ?_ ?_; rotate_left; (focus (intro w'_ hs_; (repeat obtain ⟨_, hs_⟩ := hs_); go_simp; with_reducible rfl)); rotate_left; (focus (simp only [Act.put, List.setIfInBounds_toArray, List.set_cons_zero, List.set_cons_succ]; rfl)))
      refine one_ (i := 10) (N := some 109) #[true, true, true, true, true, true, true, true, true, true, true, true, true, true, false, false, false, false] rfl rfl (by kernel_rfl) (by decide) (fun K hK => ?_)
      refine goes_ Tryd.func68 (by kernel_rfl) rfl #[v4, .int .u64 (g.f1.length : Int), .int .i64 4, .bool le] (by rfl) rfl rfl (by (try simp only [List.map_toArray, List.map_cons, List.map_nil]); first | done | rfl) ?_
      refine (put4_ok v4 _ (g.f1.length : Int) le w0 Wb F0.r (by omega)).mono ?_
      rintro e w1 ⟨u1, rfl, hr1, hv1⟩
      have F1 := F0.step hr1 hv1
      refine ⟨_, rfl, hK.out _ _ ⟨(blk_cell F1.p 0).trans rfl, (blk_cell F1.b 0).trans rfl, (blk_cell F1.b 1).trans rfl, (blk_cell F1.b 2).trans rfl, (blk_cell F1.b 3).trans rfl, trivial⟩ (fun hHeld1 => ?_)⟩
      clear hK K hHeld hr1 hv1 F0
      (refine norm_ (a' := ?_) ?_ ?_; rotate_left; focus (show Act.put _ (some 109) _ = _; simp only [Act.put, List.setIfInBounds_toArray, List.set_cons_zero, List.set_cons_succ]; rfl))
      refine one_ (i := 14) (N := some 113) #[true, true, true, true, true, true, true, true, true, true, true, true, true, true, true, false, false, false] rfl rfl (by kernel_rfl) (by decide) (fun K hK => ?_)
      refine goes_ Tryd.func69 (by kernel_rfl) rfl #[u1, .slice A1 g.f1.length c1, .bool le] (by rfl) rfl rfl (by (try simp only [List.map_toArray, List.map_cons, List.map_nil]); first | done | rfl) ?_
      refine (pairs_ok u1 _ A1 c1 g.f1 le w0 w1 F1.r H1.out (by rw [List.length_append, P32_len]; omega)).mono ?_
      rintro e w2 ⟨u2, rfl, hr2, hv2⟩
      have F2 := F1.step hr2 hv2
      obtain ⟨A5b, c5b, e5⟩ := Kd.R_slice F2.r.r
      subst e5
      obtain ⟨n5b, hn5⟩ : ∃ y, y = List.length ((o4 ++ P32 (g.f1.length : Int) le) ++ ptsB le g.f1) := ⟨_, rfl⟩
      rw [← hn5] at F2 ⊢
      clear hn5
      refine ⟨_, rfl, hK.out _ _ ⟨(blk_cell F2.p 0).trans rfl, (blk_cell F2.b 0).trans rfl, (blk_cell F2.b 1).trans rfl, (blk_cell F2.b 2).trans rfl, (blk_cell F2.b 3).trans rfl, trivial⟩ (fun hHeld2 => ?_)⟩
      clear hK K hHeld1 hr2 hv2 F1
      (refine norm_ (a' := ?_) ?_ ?_; rotate_left; focus (show Act.put _ (some 113) _ = _; simp only [Act.put, List.setIfInBounds_toArray, List.set_cons_zero, List.set_cons_succ]; rfl))
      (refine pure_ (i := 15) (N := some 114) (v := ?_) (a' := ?_) #[true, true, true, true, true, true, true, true, true, true, true, true, true, true, true, true, false, false] rfl rfl (by kernel_rfl) (fun _ _ _ h => h) (Or.inl ⟨by rfl, ?_⟩) ?_ ?_; rotate_left; (focus (intro w'_; go_simp; with_reducible rfl)); rotate_left; (focus (simp only [Act.put, List.setIfInBounds_toArray, List.set_cons_zero, List.set_cons_succ]; rfl)))
      (refine pure_ (i := 16) (N := some 115) (v := ?_) (a' := ?_) #[true, true, true, true, true, true, true, true, true, true, true, true, true, true, true, true, true, false] rfl rfl (by kernel_rfl) (fun _ _ _ h => h) (Or.inl ⟨by rfl, ?_⟩) ?_ ?_; rotate_left; (focus (intro w'_; go_simp; with_reducible rfl)); rotate_left; (focus (simp only [Act.put, List.setIfInBounds_toArray, List.set_cons_zero, List.set_cons_succ]; rfl)))
      refine last_ (i := 17) (N := none) #[true, true, true, true, true, true, true, true, true, true, true, true, true, true, true, true, true, true] rfl rfl (by kernel_rfl) (by decide) (fun K hK => ?_)
      have hs0 : w2.cell? ⟨gp, 0, none⟩ = some v4 := (blk_cell F2.p 0).trans rfl
      have hf0 := blk_frozen F2.p 0
      refine skip_ (w1 := ?_) (by rfl) rfl ?_ ?_
      rotate_left
      · go_simp
        rfl
      refine hK.out _ _ ?_
      clear hK K
      refine done_ (by kernel_rfl) ?_
      have G8 := Aside0.mk F2.land
      obtain ⟨w8, hw5⟩ : ∃ y, y = w2.setCell ⟨gp, 0, none⟩ (.slice A5b n5b c5b) := ⟨_, rfl⟩
      rw [← hw5] at G8 ⊢
      clear hw5
      clear F2 hs0 hf0 hHeld2 G4
      go_wp2_with fail
      refine bodyPost_end (results_none rfl _ _ _) rfl ?_
      exact ⟨rfl, _, by
        rw [HN.out, HE.out]
        have h9 := G8.out.P
        rw [HO4.out.1] at h9
        simp only [List.append_assoc] at h9 ⊢
        exact h9, G8.out.M⟩
    have k2' : (g.f0 == 2) = false := beq_eq_false_iff_ne.2 k2
    rw [if_neg k2] at HE
    by_cases k3 : g.f0 = 3
    · have k3' : (g.f0 == 3) = true := by rw [k3]; rfl
      rw [if_pos k3] at HE
      rw [if_pos (.inr (.inr k3))] at HN
      go_wp2_with fail
      clear k1 k1' k2 k2' k3 k3'
      have F0 := (G4.out.below (below_drew (Below.refl _ _))).fly
      refine start_ (n := 14) (S := fun w' => w'.cell? ⟨gp, 0, none⟩ = some v4 ∧ w'.cell? ⟨gb, 0, none⟩ = some (.int .i64 g.f0) ∧ w'.cell? ⟨gb, 1, none⟩ = some (.slice A1 g.f1.length c1) ∧ w'.cell? ⟨gb, 2, none⟩ = some (.slice A2 g.f2.length c2) ∧ w'.cell? ⟨gb, 3, none⟩ = some (.slice A3 g.f3.length c3) ∧ True) (ds := [13]) #[false, false, false, false, false, false, false, false, false, false, false, false, false, false] hmx rfl rfl ⟨(blk_cell F0.p 0).trans rfl, (blk_cell F0.b 0).trans rfl, (blk_cell F0.b 1).trans rfl, (blk_cell F0.b 2).trans rfl, (blk_cell F0.b 3).trans rfl, trivial⟩ (fun hHeld => ?_)
      generalize w4.drew = Wb at F0 hHeld ⊢
      (refine pure_ (i := 0) (N := some 118) (v := ?_) (a' := ?_) #[true, false, false, false, false, false, false, false, false, false, false, false, false, false] rfl rfl (by kernel_rfl) (fun _ _ _ h => h) (Or.inl ⟨by rfl, ?_⟩) ?_ ?_; rotate_left; (focus (intro w'_; go_simp; with_reducible rfl)); rotate_left; (focus (simp only [Act.put, List.setIfInBounds_toArray, List.set_cons_zero, List.set_cons_succ]; rfl)))
      (refine pure_ (i := 1) (N := some 119) (v := ?_) (a' := ?_) #[true, true, false, false, false, false, false, false, false, false, false, false, false, false] rfl rfl (by kernel_rfl) (fun _ _ _ h => h) (Or.inl ⟨by rfl, ?_⟩) ?_ ?_; rotate_left; (focus (intro w'_; go_simp; with_reducible rfl)); rotate_left; (focus (simp only [Act.put, List.setIfInBounds_toArray, List.set_cons_zero, List.set_cons_succ]; rfl)))
      (refine pure_ (i := 2) (N := some 120) (v := ?_) (a' := ?_) #[true, true, true, false, false, false, false, false, false, false, false, false, false, false] rfl rfl (by kernel_rfl) (fun _ _ _ h => h) (Or.inl ⟨by rfl, ?_⟩) ?_ ?_; rotate_left; (focus (intro w'_; go_simp; with_reducible rfl)); rotate_left; (focus (simp only [Act.put, List.setIfInBounds_toArray, List.set_cons_zero, List.set_cons_succ]; rfl)))
      (refine pure_ (i := 3) (N := some 121) (v := ?_) (a' := ?_) #[true, true, true, true, false, false, false, false, false, false, false, false, false, false] rfl rfl (by kernel_rfl) (fun _ _ _ h => h) (Or.inl ⟨by rfl, ?_⟩) ?_ ?_; rotate_left; (focus (intro w'_; go_simp; with_reducible rfl)); rotate_left; (focus (simp only [Act.put, List.setIfInBounds_toArray, List.set_cons_zero, List.set_cons_succ]; rfl)))
      (refine pure_ (i := 5) (N := some 123) (v := ?_) (a' := ?_) #[true, true, true, true, false, true, false, false, false, false, false, false, false, false] rfl rfl (by kernel_rfl) (fun _ _ _ h => h) (Or.inl ⟨by rfl, ?_⟩) ?_ ?_; rotate_left; (focus (intro w'_; go_simp; with_reducible rfl)); rotate_left; (focus (simp only [Act.put, List.setIfInBounds_toArray, List.set_cons_zero, List.set_cons_succ]; rfl)))
      (refine pure_ (i := 9) (N := some 127) (v := ?_) (a' := ?_) #[true, true, true, true, false, true, false, false, false, true, false, false, false, false] rfl rfl (by kernel_rfl) (fun _ _ _ h => h) (Or.inl ⟨by rfl, ?_⟩) ?_ ?_; rotate_left; (focus (intro w'_; go_simp; with_reducible rfl)); rotate_left; (focus (simp only [Act.put, List.setIfInBounds_toArray, List.set_cons_zero, List.set_cons_succ]; rfl)))
      (refine take_ (i := 4) (N := some 122) (v := ?_) (a' := ?_) #[true, true, true, true, true, true, false, false, false, true, false, false, false, false] rfl rfl (by kernel_rfl) (fun _ _ _ h => h) (Or.inl ⟨by rfl, ?_⟩) hHeld ?_ ?_; rotate_left; (focus (intro w'_ hs_; (repeat obtain ⟨_, hs_⟩ := hs_); go_simp; with_reducible rfl)); rotate_left; (focus (simp only [Act.put, List.setIfInBounds_toArray, List.set_cons_zero, List.set_cons_succ]; rfl)))
      (refine take_ (i := 6) (N := some 124) (v := ?_) (a' := ?_) #[true, true, true, true, true, true, true, false, false, true, false, false, false, false] rfl rfl (by kernel_rfl) (fun _ _ _ h => h) (Or.inl ⟨by rfl, ?_⟩) hHeld ?_ ?_; rotate_left; (focus (intro w'_ hs_; (repeat obtain ⟨_, hs_⟩ := hs_); go_simp; with_reducible rfl)); rotate_left; (focus (simp only [Act.put, List.setIfInBounds_toArray, List.set_cons_zero, List.set_cons_succ]; rfl)))
      (refine pure_ (i := 7) (N := some 125) (v := ?_) (a' := ?_) #[true, true, true, true, true, true, true, true, false, true, false, false, false, false] rfl rfl (by kernel_rfl) (fun _ _ _ h => h) (Or.inl ⟨by rfl, ?_⟩) ?_ ?_; rotate_left; (focus (intro w'_; go_simp; with_reducible rfl)); rotate_left; (focus (simp only [Act.put, List.setIfInBounds_toArray, List.set_cons_zero, List.set_cons_succ]; rfl)))
      (refine pure_ (i := 8) (N := some 126) (v := ?_) (a' := ?_) #[true, true, true, true, true, true, true, true, true, true, false, false, false, false] rfl rfl (by kernel_rfl) (fun _ _ _ h => h) (Or.inl ⟨by rfl, ?_⟩) ?_ ?_; rotate_left; (focus (intro w'_; go_simp; with_reducible rfl)); rotate_left; (focus (simp only [Act.put, List.setIfInBounds_toArray, List.set_cons_zero, List.set_cons_succ]; rfl)))
      refine one_ (i := 10) (N := some 128) #[true, true, true, true, true, true, true, true, true, true, true, false, false, false] rfl rfl (by kernel_rfl) (by decide) (fun K hK => ?_)
      refine goes_ Tryd.func68 (by kernel_rfl) rfl #[v4, .int .u64 (g.f2.length : Int), .int .i64 4, .bool le] (by rfl) rfl rfl (by (try simp only [List.map_toArray, List.map_cons, List.map_nil]); first | done | rfl) ?_
      refine (put4_ok v4 _ (g.f2.length : Int) le w0 Wb F0.r (by omega)).mono ?_
      rintro e w1 ⟨u1, rfl, hr1, hv1⟩
      have F1 := F0.step hr1 hv1
      obtain ⟨A5b, c5b, e5⟩ := Kd.R_slice F1.r.r
      subst e5
      obtain ⟨n5b, hn5⟩ : ∃ y, y = List.length (o4 ++ P32 (g.f2.length : Int) le) := ⟨_, rfl⟩
      rw [← hn5] at F1 ⊢
      clear hn5
      refine ⟨_, rfl, hK.out _ _ ⟨(blk_cell F1.p 0).trans rfl, (blk_cell F1.b 0).trans rfl, (blk_cell F1.b 1).trans rfl, (blk_cell F1.b 2).trans rfl, (blk_cell F1.b 3).trans rfl, trivial⟩ (fun hHeld1 => ?_)⟩
      clear hK K hHeld hr1 hv1 F0
      (refine norm_ (a' := ?_) ?_ ?_; rotate_left; focus (show Act.put _ (some 128) _ = _; simp only [Act.put, List.setIfInBounds_toArray, List.set_cons_zero, List.set_cons_succ]; rfl))
      (refine pure_ (i := 11) (N := some 129) (v := ?_) (a' := ?_) #[true, true, true, true, true, true, true, true, true, true, true, true, false, false] rfl rfl (by kernel_rfl) (fun _ _ _ h => h) (Or.inl ⟨by rfl, ?_⟩) ?_ ?_; rotate_left; (focus (intro w'_; go_simp; with_reducible rfl)); rotate_left; (focus (simp only [Act.put, List.setIfInBounds_toArray, List.set_cons_zero, List.set_cons_succ]; rfl)))
      (refine pure_ (i := 12) (N := some 130) (v := ?_) (a' := ?_) #[true, true, true, true, true, true, true, true, true, true, true, true, true, false] rfl rfl (by kernel_rfl) (fun _ _ _ h => h) (Or.inl ⟨by rfl, ?_⟩) ?_ ?_; rotate_left; (focus (intro w'_; go_simp; with_reducible rfl)); rotate_left; (focus (simp only [Act.put, List.setIfInBounds_toArray, List.set_cons_zero, List.set_cons_succ]; rfl)))
      refine last_ (i := 13) (N := none) #[true, true, true, true, true, true, true, true, true, true, true, true, true, true] rfl rfl (by kernel_rfl) (by decide) (fun K hK => ?_)
      have hs0 : w1.cell? ⟨gp, 0, none⟩ = some v4 := (blk_cell F1.p 0).trans rfl
      have hf0 := blk_frozen F1.p 0
      refine skip_ (w1 := ?_) (by rfl) rfl ?_ ?_
      rotate_left
      · go_simp
        rfl
      refine hK.out _ _ ?_
      clear hK K
      refine done_ (by kernel_rfl) ?_
      have G5 := Aside0.mk F1.land
      obtain ⟨w5, hw5⟩ : ∃ y, y = w1.setCell ⟨gp, 0, none⟩ (.slice A5b n5b c5b) := ⟨_, rfl⟩
      rw [← hw5] at G5 ⊢
      clear hw5
      clear F1 hs0 hf0 hHeld1 G4
      obtain ⟨v5, hv5⟩ : ∃ y, y = Value.slice A5b n5b c5b := ⟨_, rfl⟩
      obtain ⟨o5, ho5⟩ : ∃ y, y = o4 ++ P32 (g.f2.length : Int) le := ⟨_, rfl⟩
      rw [← hv5, ← ho5] at G5
      have HO5 := Aside0.mk ho5
      have ho5l : o5.length ≤ out.length + 9 := by rw [ho5, List.length_append, P32_len]; omega
      clear hv5 ho5 z0_ z1_ z2_ z3_
      go_wp2_with fail
      go_loopg [5] g.f2.length (fun kq ii wr => ∃ (i : Nat) (vi : Value), ii = .int .i64 (i : Int) ∧ i + kq = g.f2.length ∧ Aside0 (Gs 99 cfR w0 W wr gp O co os (k + 1) vo vi (o5 ++ ringsB le (g.f2.take i)) gb #[.int .i64 g.f0, .slice A1 g.f1.length c1, .slice A2 g.f2.length c2, .slice A3 g.f3.length c3]))
      case atStart => exact ⟨0, v5, rfl, by omega, ⟨by simpa [ringsB] using G5.out⟩⟩
      case round =>
        clear G5
        obtain ⟨i, vi, rfl, hi, G5⟩ := hrel
        have z0_ : wr.cell? ⟨gb, 0, none⟩ = some (.int .i64 g.f0) := (blk_cell G5.out.b 0).trans rfl
        have z1_ : wr.cell? ⟨gb, 1, none⟩ = some (.slice A1 g.f1.length c1) := (blk_cell G5.out.b 1).trans rfl
        have z2_ : wr.cell? ⟨gb, 2, none⟩ = some (.slice A2 g.f2.length c2) := (blk_cell G5.out.b 2).trans rfl
        have z3_ : wr.cell? ⟨gb, 3, none⟩ = some (.slice A3 g.f3.length c3) := (blk_cell G5.out.b 3).trans rfl
        cases gk with
        | zero =>
          have hlt : ¬ ((i : Int) < (g.f2.length : Int)) := by omega
          obtain rfl : i = g.f2.length := by omega
          go_wp2_with fail
          refine bodyPost_end (results_none rfl _ _ _) rfl ?_
          exact ⟨rfl, vi, by
            rw [HN.out, HE.out]
            have h9 := G5.out.P
            rw [List.take_length, HO5.out, HO4.out.1] at h9
            simp only [List.append_assoc] at h9 ⊢
            exact h9, G5.out.M⟩
        | succ kq =>
          have hlt : (i : Int) < (g.f2.length : Int) := by omega
          have hil : i < g.f2.length := by omega
          obtain ⟨ad, A4, c4, e4, p0, hc4, hr4⟩ := at_L2 H2.out (i : Int) (by omega) (by omega)
          have hrd : rd_L2 g.f2 (i : Int) = g.f2[i] := by simp [rd_L2, List.getD_eq_getElem?_getD, List.getElem?_eq_getElem hil]
          rw [hrd, Int.toNat_natCast] at p0
          rw [hrd] at hc4 hr4
          subst e4
          have HTK := Aside0.mk (List.take_succ_eq_append_getElem hil)
          have hfl : (g.f2.take i).flatten.length + g.f2[i].length ≤ g.f2.flatten.length := by
            have h9 := congrArg (fun l => l.flatten.length) (List.take_append_drop i g.f2)
            simp only [List.flatten_append, List.length_append] at h9
            rw [List.drop_eq_getElem_cons hil, List.flatten_cons, List.length_append] at h9
            omega
          have hrl := ringsB_len le (g.f2.take i)
          have htl : (g.f2.take i).length = i := by rw [List.length_take]; omega
          obtain ⟨r, hr⟩ : ∃ r, r = g.f2[i] := ⟨_, rfl⟩
          rw [← hr] at p0 hc4 hr4 HTK hfl
          have hrb : r.length ≤ 2097152 := by omega
          have ur_ : IntKind.u64.wrap (r.length : Int) = (r.length : Int) := by rw [IntKind.wrap_u64]; omega
          have HUR := Aside0.mk (show u32 (r.length : Int) = (r.length : Int) by unfold u32; rw [IntKind.wrap_u32]; omega)
          have HR4 := Aside0.mk hr4
          have HLN := Aside0.mk (show (o5 ++ ringsB le (g.f2.take i)).length + 4 + 16 * r.length ≤ 70368744177664 by rw [List.length_append]; omega)
          have P0 := Aside0.mk p0
          clear hrd hr hr4 hrl htl hfl p0
          go_wp2_with fail
          have F0 := (G5.out.below (below_drew (Below.refl _ _))).fly
          refine start_ (n := 24) (S := fun w' => w'.cell? ⟨gp, 0, none⟩ = some vi ∧ w'.cell? ⟨gb, 0, none⟩ = some (.int .i64 g.f0) ∧ w'.cell? ⟨gb, 1, none⟩ = some (.slice A1 g.f1.length c1) ∧ w'.cell? ⟨gb, 2, none⟩ = some (.slice (some ad) g.f2.length c2) ∧ w'.cell? ⟨gb, 3, none⟩ = some (.slice A3 g.f3.length c3) ∧ w'.cell? (ad.add i) = some (.slice A4 r.length c4) ∧ True) (ds := [23]) #[false, false, false, false, false, false, false, false, false, false, false, false, false, false, false, false, false, false, false, false, false, false, false, false] hmx rfl rfl ⟨(blk_cell F0.p 0).trans rfl, (blk_cell F0.b 0).trans rfl, (blk_cell F0.b 1).trans rfl, (blk_cell F0.b 2).trans rfl, (blk_cell F0.b 3).trans rfl, pw_cell_below F0.r.K P0.out, trivial⟩ (fun hHeld => ?_)
          generalize wr.drew = Wb at F0 hHeld ⊢
          (refine pure_ (i := 0) (N := some 138) (v := ?_) (a' := ?_) #[true, false, false, false, false, false, false, false, false, false, false, false, false, false, false, false, false, false, false, false, false, false, false, false] rfl rfl (by kernel_rfl) (fun _ _ _ h => h) (Or.inl ⟨by rfl, ?_⟩) ?_ ?_; rotate_left; (focus (intro w'_; go_simp; with_reducible rfl)); rotate_left; (focus (simp only [Act.put, List.setIfInBounds_toArray, List.set_cons_zero, List.set_cons_succ]; rfl)))
          (refine pure_ (i := 1) (N := some 139) (v := ?_) (a' := ?_) #[true, true, false, false, false, false, false, false, false, false, false, false, false, false, false, false, false, false, false, false, false, false, false, false] rfl rfl (by kernel_rfl) (fun _ _ _ h => h) (Or.inl ⟨by rfl, ?_⟩) ?_ ?_; rotate_left; (focus (intro w'_; go_simp; with_reducible rfl)); rotate_left; (focus (simp only [Act.put, List.setIfInBounds_toArray, List.set_cons_zero, List.set_cons_succ]; rfl)))
          (refine pure_ (i := 2) (N := some 140) (v := ?_) (a' := ?_) #[true, true, true, false, false, false, false, false, false, false, false, false, false, false, false, false, false, false, false, false, false, false, false, false] rfl rfl (by kernel_rfl) (fun _ _ _ h => h) (Or.inl ⟨by rfl, ?_⟩) ?_ ?_; rotate_left; (focus (intro w'_; go_simp; with_reducible rfl)); rotate_left; (focus (simp only [Act.put, List.setIfInBounds_toArray, List.set_cons_zero, List.set_cons_succ]; rfl)))
          (refine pure_ (i := 3) (N := some 141) (v := ?_) (a' := ?_) #[true, true, true, true, false, false, false, false, false, false, false, false, false, false, false, false, false, false, false, false, false, false, false, false] rfl rfl (by kernel_rfl) (fun _ _ _ h => h) (Or.inl ⟨by rfl, ?_⟩) ?_ ?_; rotate_left; (focus (intro w'_; go_simp; with_reducible rfl)); rotate_left; (focus (simp only [Act.put, List.setIfInBounds_toArray, List.set_cons_zero, List.set_cons_succ]; rfl)))
          (refine pure_ (i := 5) (N := some 143) (v := ?_) (a' := ?_) #[true, true, true, true, false, true, false, false, false, false, false, false, false, false, false, false, false, false, false, false, false, false, false, false] rfl rfl (by kernel_rfl) (fun _ _ _ h => h) (Or.inl ⟨by rfl, ?_⟩) ?_ ?_; rotate_left; (focus (intro w'_; go_simp; with_reducible rfl)); rotate_left; (focus (simp only [Act.put, List.setIfInBounds_toArray, List.set_cons_zero, List.set_cons_succ]; rfl)))
          (refine pure_ (i := 7) (N := some 145) (v := ?_) (a' := ?_) #[true, true, true, true, false, true, false, true, false, false, false, false, false, false, false, false, false, false, false, false, false, false, false, false] rfl rfl (by kernel_rfl) (fun _ _ _ h => h) (Or.inl ⟨by rfl, ?_⟩) ?_ ?_; rotate_left; (focus (intro w'_; go_simp; with_reducible rfl)); rotate_left; (focus (simp only [Act.put, List.setIfInBounds_toArray, List.set_cons_zero, List.set_cons_succ]; rfl)))
          (refine pure_ (i := 12) (N := some 150) (v := ?_) (a' := ?_) #[true, true, true, true, false, true, false, true, false, false, false, false, true, false, false, false, false, false, false, false, false, false, false, false] rfl rfl (by kernel_rfl) (fun _ _ _ h => h) (Or.inl ⟨by rfl, ?_⟩) ?_ ?_; rotate_left; (focus (intro w'_; go_simp; with_reducible rfl)); rotate_left; (focus (simp only [Act.put, List.setIfInBounds_toArray, List.set_cons_zero, List.set_cons_succ]; rfl)))
          (refine pure_ (i := 14) (N := some 152) (v := ?_) (a' := ?_) #[true, true, true, true, false, true, false, true, false, false, false, false, true, false, true, false, false, false, false, false, false, false, false, false] rfl rfl (by kernel_rfl) (fun _ _ _ h => h) (Or.inl ⟨by rfl, ?_⟩) ?_ ?_; rotate_left; (focus (intro w'_; go_simp; with_reducible rfl)); rotate_left; (focus (simp only [Act.put, List.setIfInBounds_toArray, List.set_cons_zero, List.set_cons_succ]; rfl)))
          (refine pure_ (i := 16) (N := some 154) (v := ?_) (a' := ?_) #[true, true, true, true, false, true, false, true, false, false, false, false, true, false, true, false, true, false, false, false, false, false, false, false] rfl rfl (by kernel_rfl) (fun _ _ _ h => h) (Or.inl ⟨by rfl, ?_⟩) ?_ ?_; rotate_left; (focus (intro w'_; go_simp; with_reducible rfl)); rotate_left; (focus (simp only [Act.put, List.setIfInBounds_toArray, List.set_cons_zero, List.set_cons_succ]; rfl)))
          (refine pure_ (i := 19) (N := some 157) (v := ?_) (a' := ?_) #[true, true, true, true, false, true, false, true, false, false, false, false, true, false, true, false, true, false, false, true, false, false, false, false] rfl rfl (by kernel_rfl) (fun _ _ _ h => h) (Or.inl ⟨by rfl, ?_⟩) ?_ ?_; rotate_left; (focus (intro w'_; go_simp; with_reducible rfl)); rotate_left; (focus (simp only [Act.put, List.setIfInBounds_toArray, List.set_cons_zero, List.set_cons_succ]; rfl)))
          (refine take_ (i := 4) (N := some 142) (v := ?_) (a' := ?_) #[true, true, true, true, true, true, false, true, false, false, false, false, true, false, true, false, true, false, false, true, false, false, false, false] rfl rfl (by kernel_rfl) (fun _ _ _ h => h) (Or.inl ⟨by rfl, ?_⟩) hHeld ?_ ?_; rotate_left; (focus (intro w'_ hs_; (repeat obtain ⟨_, hs_⟩ := hs_); go_simp; with_reducible rfl)); rotate_left; (focus (simp only [Act.put, List.setIfInBounds_toArray, List.set_cons_zero, List.set_cons_succ]; rfl)))
          (refine take_ (i := 6) (N := some 144) (v := ?_) (a' := ?_) #[true, true, true, true, true, true, true, true, false, false, false, false, true, false, true, false, true, false, false, true, false, false, false, false] rfl rfl (by kernel_rfl) (fun _ _ _ h => h) (Or.inl ⟨by rfl, ?_⟩) hHeld ?_ ?_; rotate_left; (focus (intro w'_ hs_; (repeat obtain ⟨_, hs_⟩ := hs_); go_simp; with_reducible rfl)); rotate_left; (focus (simp only [Act.put, List.setIfInBounds_toArray, List.set_cons_zero, List.set_cons_succ]; rfl)))
          (refine take_ (i := 15) (N := some 153) (v := ?_) (a' := ?_) #[true, true, true, true, true, true, true, true, false, false, false, false, true, false, true, true, true, false, false, true, false, false, false, false] rfl rfl (by kernel_rfl) (fun _ _ _ h => h) (Or.inl ⟨by rfl, ?_⟩) hHeld ?_ ?_; rotate_left; (focus (intro w'_ hs_; (repeat obtain ⟨_, hs_⟩ := hs_); go_simp; with_reducible rfl)); rotate_left; (focus (simp only [Act.put, List.setIfInBounds_toArray, List.set_cons_zero, List.set_cons_succ]; rfl)))
          (refine pure_ (i := 8) (N := some 146) (v := ?_) (a' := ?_) #[true, true, true, true, true, true, true, true, true, false, false, false, true, false, true, true, true, false, false, true, false, false, false, false] rfl rfl (by kernel_rfl) (fun _ _ _ h => h) (Or.inl ⟨by rfl, ?_⟩) ?_ ?_; rotate_left; (focus (intro w'_; go_simp; with_reducible rfl)); rotate_left; (focus (simp only [Act.put, List.setIfInBounds_toArray, List.set_cons_zero, List.set_cons_succ]; rfl)))
          (refine pure_ (i := 17) (N := some 155) (v := ?_) (a' := ?_) #[true, true, true, true, true, true, true, true, true, false, false, false, true, false, true, true, true, true, false, true, false, false, false, false] rfl rfl (by kernel_rfl) (fun _ _ _ h => h) (Or.inl ⟨by rfl, ?_⟩) ?_ ?_; rotate_left; (focus (intro w'_; go_simp; with_reducible rfl)); rotate_left; (focus (simp only [Act.put, List.setIfInBounds_toArray, List.set_cons_zero, List.set_cons_succ]; rfl)))
          (refine take_ (i := 9) (N := some 147) (v := ?_) (a' := ?_) #[true, true, true, true, true, true, true, true, true, true, false, false, true, false, true, true, true, true, false, true, false, false, false, false] rfl rfl (by kernel_rfl) (fun _ _ _ h => h) (Or.inl ⟨by rfl, ?_⟩) hHeld ?_ ?_; rotate_left; (focus (intro w'_ hs_; (repeat obtain ⟨_, hs_⟩ := hs_); go_simp; with_reducible rfl)); rotate_left; (focus (simp only [Act.put, List.setIfInBounds_toArray, List.set_cons_zero, List.set_cons_succ]; rfl)))
          (refine take_ (i := 18) (N := some 156) (v := ?_) (a' := ?_) #[true, true, true, true, true, true, true, true, true, true, false, false, true, false, true, true, true, true, true, true, false, false, false, false] rfl rfl (by kernel_rfl) (fun _ _ _ h => h) (Or.inl ⟨by rfl, ?_⟩) hHeld ?_ ?_; rotate_left; (focus (intro w'_ hs_; (repeat obtain ⟨_, hs_⟩ := hs_); go_simp; with_reducible rfl)); rotate_left; (focus (simp only [Act.put, List.setIfInBounds_toArray, List.set_cons_zero, List.set_cons_succ]; rfl)))
          (refine pure_ (i := 10) (N := some 148) (v := ?_) (a' := ?_) #[true, true, true, true, true, true, true, true, true, true, true, false, true, false, true, true, true, true, true, true, false, false, false, false] rfl rfl (by kernel_rfl) (fun _ _ _ h => h) (Or.inl ⟨by rfl, ?_⟩) ?_ ?_; rotate_left; (focus (intro w'_; go_simp; with_reducible rfl)); rotate_left; (focus (simp only [Act.put, List.setIfInBounds_toArray, List.set_cons_zero, List.set_cons_succ]; rfl)))
          (refine pure_ (i := 11) (N := some 149) (v := ?_) (a' := ?_) #[true, true, true, true, true, true, true, true, true, true, true, true, true, false, true, true, true, true, true, true, false, false, false, false] rfl rfl (by kernel_rfl) (fun _ _ _ h => h) (Or.inl ⟨by rfl, ?_⟩) ?_ ?_; rotate_left; (focus (intro w'_; go_simp; with_reducible rfl)); rotate_left; (focus (simp only [Act.put, List.setIfInBounds_toArray, List.set_cons_zero, List.set_cons_succ]; rfl)))
          refine one_ (i := 13) (N := some 151) #[true, true, true, true, true, true, true, true, true, true, true, true, true, true, true, true, true, true, true, true, false, false, false, false] rfl rfl (by kernel_rfl) (by decide) (fun K hK => ?_)
          refine goes_ Tryd.func68 (by kernel_rfl) rfl #[vi, .int .u64 (r.length : Int), .int .i64 4, .bool le] (by rfl) rfl rfl (by (try simp only [List.map_toArray, List.map_cons, List.map_nil]); first | done | rfl) ?_
          refine (put4_ok vi _ (r.length : Int) le w0 Wb F0.r (by have := HLN.out; omega)).mono ?_
          rintro e w1 ⟨u1, rfl, hr1, hv1⟩
          have F1 := F0.step hr1 hv1
          refine ⟨_, rfl, hK.out _ _ ⟨(blk_cell F1.p 0).trans rfl, (blk_cell F1.b 0).trans rfl, (blk_cell F1.b 1).trans rfl, (blk_cell F1.b 2).trans rfl, (blk_cell F1.b 3).trans rfl, pw_cell_below F1.r.K P0.out, trivial⟩ (fun hHeld1 => ?_)⟩
          clear hK K hHeld hr1 hv1 F0
          (refine norm_ (a' := ?_) ?_ ?_; rotate_left; focus (show Act.put _ (some 151) _ = _; simp only [Act.put, List.setIfInBounds_toArray, List.set_cons_zero, List.set_cons_succ]; rfl))
          refine one_ (i := 20) (N := some 158) #[true, true, true, true, true, true, true, true, true, true, true, true, true, true, true, true, true, true, true, true, true, false, false, false] rfl rfl (by kernel_rfl) (by decide) (fun K hK => ?_)
          refine goes_ Tryd.func69 (by kernel_rfl) rfl #[u1, .slice A4 r.length c4, .bool le] (by rfl) rfl rfl (by (try simp only [List.map_toArray, List.map_cons, List.map_nil]); first | done | rfl) ?_
          refine (pairs_ok u1 _ A4 c4 r le w0 w1 F1.r HR4.out (by have := HLN.out; rw [List.length_append, P32_len]; omega)).mono ?_
          rintro e w2 ⟨u2, rfl, hr2, hv2⟩
          have F2 := F1.step hr2 hv2
          obtain ⟨A5c, c5c, e5⟩ := Kd.R_slice F2.r.r
          subst e5
          obtain ⟨n5c, hn5⟩ : ∃ y, y = List.length (((o5 ++ ringsB le (g.f2.take i)) ++ P32 (r.length : Int) le) ++ ptsB le r) := ⟨_, rfl⟩
          rw [← hn5] at F2 ⊢
          clear hn5
          refine ⟨_, rfl, hK.out _ _ ⟨(blk_cell F2.p 0).trans rfl, (blk_cell F2.b 0).trans rfl, (blk_cell F2.b 1).trans rfl, (blk_cell F2.b 2).trans rfl, (blk_cell F2.b 3).trans rfl, pw_cell_below F2.r.K P0.out, trivial⟩ (fun hHeld2 => ?_)⟩
          clear hK K hHeld1 hr2 hv2 F1
          (refine norm_ (a' := ?_) ?_ ?_; rotate_left; focus (show Act.put _ (some 158) _ = _; simp only [Act.put, List.setIfInBounds_toArray, List.set_cons_zero, List.set_cons_succ]; rfl))
          (refine pure_ (i := 21) (N := some 159) (v := ?_) (a' := ?_) #[true, true, true, true, true, true, true, true, true, true, true, true, true, true, true, true, true, true, true, true, true, true, false, false] rfl rfl (by kernel_rfl) (fun _ _ _ h => h) (Or.inl ⟨by rfl, ?_⟩) ?_ ?_; rotate_left; (focus (intro w'_; go_simp; with_reducible rfl)); rotate_left; (focus (simp only [Act.put, List.setIfInBounds_toArray, List.set_cons_zero, List.set_cons_succ]; rfl)))
          (refine pure_ (i := 22) (N := some 160) (v := ?_) (a' := ?_) #[true, true, true, true, true, true, true, true, true, true, true, true, true, true, true, true, true, true, true, true, true, true, true, false] rfl rfl (by kernel_rfl) (fun _ _ _ h => h) (Or.inl ⟨by rfl, ?_⟩) ?_ ?_; rotate_left; (focus (intro w'_; go_simp; with_reducible rfl)); rotate_left; (focus (simp only [Act.put, List.setIfInBounds_toArray, List.set_cons_zero, List.set_cons_succ]; rfl)))
          refine last_ (i := 23) (N := none) #[true, true, true, true, true, true, true, true, true, true, true, true, true, true, true, true, true, true, true, true, true, true, true, true] rfl rfl (by kernel_rfl) (by decide) (fun K hK => ?_)
          have hs0 : w2.cell? ⟨gp, 0, none⟩ = some vi := (blk_cell F2.p 0).trans rfl
          have hf0 := blk_frozen F2.p 0
          refine skip_ (w1 := ?_) (by rfl) rfl ?_ ?_
          rotate_left
          · go_simp
            rfl
          refine hK.out _ _ ?_
          clear hK K
          refine done_ (by kernel_rfl) ?_
          have G8 := Aside0.mk F2.land
          obtain ⟨w8, hw5⟩ : ∃ y, y = w2.setCell ⟨gp, 0, none⟩ (.slice A5c n5c c5c) := ⟨_, rfl⟩
          rw [← hw5] at G8 ⊢
          clear hw5
          clear F2 hs0 hf0 hHeld2 G5
          go_wp2_with fail
          go_roundg kq
          case measure => omega
          case rel => exact ⟨i + 1, _, by go_num, by omega, ⟨by have h9 := G8.out; rw [HTK.out, ringsB_snoc, HUR.out]; simp only [List.append_assoc] at h9 ⊢; exact h9⟩⟩
    have k3' : (g.f0 == 3) = false := beq_eq_false_iff_ne.2 k3
    rw [if_neg k3] at HE
    rw [if_neg (by rintro (h | h | h) <;> contradiction)] at HN
    go_wp2_with fail
    clear k1 k1' k2 k2' k3 k3'
    have F0 := (G4.out.below (below_drew (Below.refl _ _))).fly
    refine start_ (n := 14) (S := fun w' => w'.cell? ⟨gp, 0, none⟩ = some v4 ∧ w'.cell? ⟨gb, 0, none⟩ = some (.int .i64 g.f0) ∧ w'.cell? ⟨gb, 1, none⟩ = some (.slice A1 g.f1.length c1) ∧ w'.cell? ⟨gb, 2, none⟩ = some (.slice A2 g.f2.length c2) ∧ w'.cell? ⟨gb, 3, none⟩ = some (.slice A3 g.f3.length c3) ∧ True) (ds := [13]) #[false, false, false, false, false, false, false, false, false, false, false, false, false, false] hmx rfl rfl ⟨(blk_cell F0.p 0).trans rfl, (blk_cell F0.b 0).trans rfl, (blk_cell F0.b 1).trans rfl, (blk_cell F0.b 2).trans rfl, (blk_cell F0.b 3).trans rfl, trivial⟩ (fun hHeld => ?_)
    generalize w4.drew = Wb at F0 hHeld ⊢
    (refine pure_ (i := 0) (N := some 42) (v := ?_) (a' := ?_) #[true, false, false, false, false, false, false, false, false, false, false, false, false, false] rfl rfl (by kernel_rfl) (fun _ _ _ h => h) (Or.inl ⟨by rfl, ?_⟩) ?_ ?_; rotate_left; (focus (intro w'_; go_simp; with_reducible rfl)); rotate_left; (focus (simp only [Act.put, List.setIfInBounds_toArray, List.set_cons_zero, List.set_cons_succ]; rfl)))
    (refine pure_ (i := 1) (N := some 43) (v := ?_) (a' := ?_) #[true, true, false, false, false, false, false, false, false, false, false, false, false, false] rfl rfl (by kernel_rfl) (fun _ _ _ h => h) (Or.inl ⟨by rfl, ?_⟩) ?_ ?_; rotate_left; (focus (intro w'_; go_simp; with_reducible rfl)); rotate_left; (focus (simp only [Act.put, List.setIfInBounds_toArray, List.set_cons_zero, List.set_cons_succ]; rfl)))
    (refine pure_ (i := 2) (N := some 44) (v := ?_) (a' := ?_) #[true, true, true, false, false, false, false, false, false, false, false, false, false, false] rfl rfl (by kernel_rfl) (fun _ _ _ h => h) (Or.inl ⟨by rfl, ?_⟩) ?_ ?_; rotate_left; (focus (intro w'_; go_simp; with_reducible rfl)); rotate_left; (focus (simp only [Act.put, List.setIfInBounds_toArray, List.set_cons_zero, List.set_cons_succ]; rfl)))
    (refine pure_ (i := 3) (N := some 45) (v := ?_) (a' := ?_) #[true, true, true, true, false, false, false, false, false, false, false, false, false, false] rfl rfl (by kernel_rfl) (fun _ _ _ h => h) (Or.inl ⟨by rfl, ?_⟩) ?_ ?_; rotate_left; (focus (intro w'_; go_simp; with_reducible rfl)); rotate_left; (focus (simp only [Act.put, List.setIfInBounds_toArray, List.set_cons_zero, List.set_cons_succ]; rfl)))
    (refine pure_ (i := 5) (N := some 47) (v := ?_) (a' := ?_) #[true, true, true, true, false, true, false, false, false, false, false, false, false, false] rfl rfl (by kernel_rfl) (fun _ _ _ h => h) (Or.inl ⟨by rfl, ?_⟩) ?_ ?_; rotate_left; (focus (intro w'_; go_simp; with_reducible rfl)); rotate_left; (focus (simp only [Act.put, List.setIfInBounds_toArray, List.set_cons_zero, List.set_cons_succ]; rfl)))
    (refine pure_ (i := 9) (N := some 51) (v := ?_) (a' := ?_) #[true, true, true, true, false, true, false, false, false, true, false, false, false, false] rfl rfl (by kernel_rfl) (fun _ _ _ h => h) (Or.inl ⟨by rfl, ?_⟩) ?_ ?_; rotate_left; (focus (intro w'_; go_simp; with_reducible rfl)); rotate_left; (focus (simp only [Act.put, List.setIfInBounds_toArray, List.set_cons_zero, List.set_cons_succ]; rfl)))
    (refine take_ (i := 4) (N := some 46) (v := ?_) (a' := ?_) #[true, true, true, true, true, true, false, false, false, true, false, false, false, false] rfl rfl (by kernel_rfl) (fun _ _ _ h => h) (Or.inl ⟨by rfl, ?_⟩) hHeld ?_ ?_; rotate_left; (focus (intro w'_ hs_; (repeat obtain ⟨_, hs_⟩ := hs_); go_simp; with_reducible rfl)); rotate_left; (focus (simp only [Act.put, List.setIfInBounds_toArray, List.set_cons_zero, List.set_cons_succ]; rfl)))
    (refine take_ (i := 6) (N := some 48) (v := ?_) (a' := ?_) #[true, true, true, true, true, true, true, false, false, true, false, false, false, false] rfl rfl (by kernel_rfl) (fun _ _ _ h => h) (Or.inl ⟨by rfl, ?_⟩) hHeld ?_ ?_; rotate_left; (focus (intro w'_ hs_; (repeat obtain ⟨_, hs_⟩ := hs_); go_simp; with_reducible rfl)); rotate_left; (focus (simp only [Act.put, List.setIfInBounds_toArray, List.set_cons_zero, List.set_cons_succ]; rfl)))
    (refine pure_ (i := 7) (N := some 49) (v := ?_) (a' := ?_) #[true, true, true, true, true, true, true, true, false, true, false, false, false, false] rfl rfl (by kernel_rfl) (fun _ _ _ h => h) (Or.inl ⟨by rfl, ?_⟩) ?_ ?_; rotate_left; (focus (intro w'_; go_simp; with_reducible rfl)); rotate_left; (focus (simp only [Act.put, List.setIfInBounds_toArray, List.set_cons_zero, List.set_cons_succ]; rfl)))
    (refine pure_ (i := 8) (N := some 50) (v := ?_) (a' := ?_) #[true, true, true, true, true, true, true, true, true, true, false, false, false, false] rfl rfl (by kernel_rfl) (fun _ _ _ h => h) (Or.inl ⟨by rfl, ?_⟩) ?_ ?_; rotate_left; (focus (intro w'_; go_simp; with_reducible rfl)); rotate_left; (focus (simp only [Act.put, List.setIfInBounds_toArray, List.set_cons_zero, List.set_cons_succ]; rfl)))
    refine one_ (i := 10) (N := some 52) #[true, true, true, true, true, true, true, true, true, true, true, false, false, false] rfl rfl (by kernel_rfl) (by decide) (fun K hK => ?_)
    refine goes_ Tryd.func68 (by kernel_rfl) rfl #[v4, .int .u64 (g.f3.length : Int), .int .i64 4, .bool le] (by rfl) rfl rfl (by (try simp only [List.map_toArray, List.map_cons, List.map_nil]); first | done | rfl) ?_
    refine (put4_ok v4 _ (g.f3.length : Int) le w0 Wb F0.r (by omega)).mono ?_
    rintro e w1 ⟨u1, rfl, hr1, hv1⟩
    have F1 := F0.step hr1 hv1
    obtain ⟨A5b, c5b, e5⟩ := Kd.R_slice F1.r.r
    subst e5
    obtain ⟨n5b, hn5⟩ : ∃ y, y = List.length (o4 ++ P32 (g.f3.length : Int) le) := ⟨_, rfl⟩
    rw [← hn5] at F1 ⊢
    clear hn5
    refine ⟨_, rfl, hK.out _ _ ⟨(blk_cell F1.p 0).trans rfl, (blk_cell F1.b 0).trans rfl, (blk_cell F1.b 1).trans rfl, (blk_cell F1.b 2).trans rfl, (blk_cell F1.b 3).trans rfl, trivial⟩ (fun hHeld1 => ?_)⟩
    clear hK K hHeld hr1 hv1 F0
    (refine norm_ (a' := ?_) ?_ ?_; rotate_left; focus (show Act.put _ (some 52) _ = _; simp only [Act.put, List.setIfInBounds_toArray, List.set_cons_zero, List.set_cons_succ]; rfl))
    (refine pure_ (i := 11) (N := some 53) (v := ?_) (a' := ?_) #[true, true, true, true, true, true, true, true, true, true, true, true, false, false] rfl rfl (by kernel_rfl) (fun _ _ _ h => h) (Or.inl ⟨by rfl, ?_⟩) ?_ ?_; rotate_left; (focus (intro w'_; go_simp; with_reducible rfl)); rotate_left; (focus (simp only [Act.put, List.setIfInBounds_toArray, List.set_cons_zero, List.set_cons_succ]; rfl)))
    (refine pure_ (i := 12) (N := some 54) (v := ?_) (a' := ?_) #[true, true, true, true, true, true, true, true, true, true, true, true, true, false] rfl rfl (by kernel_rfl) (fun _ _ _ h => h) (Or.inl ⟨by rfl, ?_⟩) ?_ ?_; rotate_left; (focus (intro w'_; go_simp; with_reducible rfl)); rotate_left; (focus (simp only [Act.put, List.setIfInBounds_toArray, List.set_cons_zero, List.set_cons_succ]; rfl)))
    refine last_ (i := 13) (N := none) #[true, true, true, true, true, true, true, true, true, true, true, true, true, true] rfl rfl (by kernel_rfl) (by decide) (fun K hK => ?_)
    have hs0 : w1.cell? ⟨gp, 0, none⟩ = some v4 := (blk_cell F1.p 0).trans rfl
    have hf0 := blk_frozen F1.p 0
    refine skip_ (w1 := ?_) (by rfl) rfl ?_ ?_
    rotate_left
    · go_simp
      rfl
    refine hK.out _ _ ?_
    clear hK K
    refine done_ (by kernel_rfl) ?_
    have G5 := Aside0.mk F1.land
    obtain ⟨w5, hw5⟩ : ∃ y, y = w1.setCell ⟨gp, 0, none⟩ (.slice A5b n5b c5b) := ⟨_, rfl⟩
    rw [← hw5] at G5 ⊢
    clear hw5
    clear F1 hs0 hf0 hHeld1 G4
    obtain ⟨v5, hv5⟩ : ∃ y, y = Value.slice A5b n5b c5b := ⟨_, rfl⟩
    obtain ⟨o5, ho5⟩ : ∃ y, y = o4 ++ P32 (g.f3.length : Int) le := ⟨_, rfl⟩
    rw [← hv5, ← ho5] at G5
    have HO5 := Aside0.mk ho5
    have ho5l : o5.length ≤ out.length + 9 := by rw [ho5, List.length_append, P32_len]; omega
    clear hv5 ho5 z0_ z1_ z2_ z3_
    go_wp2_with fail
    go_loopg [6] g.f3.length (fun kq ii wr => ∃ (i : Nat) (vi : Value), ii = .int .i64 (i : Int) ∧ i + kq = g.f3.length ∧ Aside0 (Gs 99 cfR w0 W wr gp O co os (k + 1 + cntL (g.f3.take i)) vo vi (o5 ++ partsB os (g.f3.take i) (k + 1)) gb #[.int .i64 g.f0, .slice A1 g.f1.length c1, .slice A2 g.f2.length c2, .slice A3 g.f3.length c3]))
    case atStart => exact ⟨0, v5, rfl, by omega, ⟨by simpa [partsB, cntL] using G5.out⟩⟩
    case round =>
      clear G5
      obtain ⟨i, vi, rfl, hi, G5⟩ := hrel
      have z0_ : wr.cell? ⟨gb, 0, none⟩ = some (.int .i64 g.f0) := (blk_cell G5.out.b 0).trans rfl
      have z1_ : wr.cell? ⟨gb, 1, none⟩ = some (.slice A1 g.f1.length c1) := (blk_cell G5.out.b 1).trans rfl
      have z2_ : wr.cell? ⟨gb, 2, none⟩ = some (.slice A2 g.f2.length c2) := (blk_cell G5.out.b 2).trans rfl
      have z3_ : wr.cell? ⟨gb, 3, none⟩ = some (.slice A3 g.f3.length c3) := (blk_cell G5.out.b 3).trans rfl
      cases gk with
      | zero =>
        have hlt : ¬ ((i : Int) < (g.f3.length : Int)) := by omega
        obtain rfl : i = g.f3.length := by omega
        go_wp2_with fail
        refine bodyPost_end (results_none rfl _ _ _) rfl ?_
        exact ⟨rfl, vi, by
          rw [HN.out, HE.out, ← Nat.add_assoc]
          have h9 := G5.out.P
          rw [List.take_length, HO5.out, HO4.out.1] at h9
          simp only [List.append_assoc] at h9 ⊢
          exact h9, G5.out.M⟩
      | succ kq =>
        have hlt : (i : Int) < (g.f3.length : Int) := by omega
        have hil : i < g.f3.length := by omega
        obtain ⟨a3, B1, d1, B2, d2, B3, d3, ea, p0, p1, p2, p3, m1, q1, m2, q2, m3, q3⟩ := at_Ge H3.out i (by omega) (by omega)
        subst ea
        rw [rd_Ge_at _ _ hil] at p0 p1 p2 p3 q1 q2 q3 m1 m2 m3
        rw [Int.toNat_natCast] at p0 p1 p2 p3
        have HG := Aside0.mk (show IsG w0 (.agg #[.int .i64 (g.f3[i]).f0, .slice B1 (g.f3[i]).f1.length d1, .slice B2 (g.f3[i]).f2.length d2, .slice B3 (g.f3[i]).f3.length d3]) g.f3[i] from ⟨B1, d1, B2, d2, B3, d3, rfl, m1, q1, m2, q2, m3, q3⟩)
        have p0' := cell_below G5.out.P.K p0
        have p1' := cell_below G5.out.P.K p1
        have p2' := cell_below G5.out.P.K p2
        have p3' := cell_below G5.out.P.K p3
        have HTK := Aside0.mk (List.take_succ_eq_append_getElem hil)
        have HKP := Aside0.mk (HK.out.part (List.getElem_mem hil))
        have hbt : bulks (g.f3.take i) + (g.f3[i]).bulk ≤ bulks g.f3 := by
          have h9 := bulks_take g.f3 (i + 1)
          rw [HTK.out, bulks_app] at h9
          simp only [bulks] at h9
          omega
        obtain ⟨c, hc⟩ : ∃ c, c = g.f3[i] := ⟨_, rfl⟩
        rw [← hc] at p0' p1' p2' p3' HG HTK hbt HKP
        have hpl := partsB_le os (g.f3.take i) (k + 1)
        have HLN := Aside0.mk (show (o5 ++ partsB os (g.f3.take i) (k + 1)).length + 32 * c.bulk ≤ 70368744177664 ∧ k + 1 + cntL (g.f3.take i) + c.bulk ≤ 1152921504606846976 ∧ c.bulk ≤ n ∧ c.bulk ≤ 2097152 from by
          rw [List.length_append]
          omega)
        clear hc p0 p1 p2 p3 q1 q2 q3 m1 m2 m3 hbt hpl
        go_wp2_with fail
        refine (IH.out c w0 wr gp O co os (k + 1 + cntL (g.f3.take i)) vi (o5 ++ partsB os (g.f3.take i) (k + 1)) _ HLN.out.2.2.1 G5.out.P HG.out HLN.out.1 HLN.out.2.1 hos HKP.out HLN.out.2.2.2).mono ?_
        rintro e w7 ⟨rfl, v7, hp7, hm7⟩
        have G7 := Aside0.mk (G5.out.step hp7 hm7)
        clear G5 hp7 hm7 z0_ z1_ z2_ z3_ p0' p1' p2' p3'
        go_wp2_with fail
        go_roundg kq
        case measure => omega
        case rel => exact ⟨i + 1, v7, by go_num, by omega, ⟨by have h9 := G7.out; rw [HTK.out, partsB_snoc, cntL_snoc]; simp only [List.append_assoc, Nat.add_assoc] at h9 ⊢; exact h9⟩⟩
end Go.Proofs.YtiiolhnpnlmkjaaDoor.Tree
