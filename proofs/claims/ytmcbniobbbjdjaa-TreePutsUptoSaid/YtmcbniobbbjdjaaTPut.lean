/- Put by contract. No conditions but those told. -/
import Derived.Test.YtmcbniobbbjdjaaTDeep
namespace Go.Proofs.Ytmcbniobbbjdjaa.Tree
open Go.RowKit Go.Proofs.YtmcbniobbbjdjaaW.PrintWords Go.Proofs.YtmcbniobbbjdjaaW.PrintLast Go.Proofs.YtmcbniobbbjdjaaW.PrintMore
set_option linter.unusedVariables false
set_option linter.unusedSimpArgs false
/-- What Put answers. -/
def PutRes (w w' : World) (g : Ge) (q : List Int) (p : Ge) (u : Value) (c : Int) : Prop := match findR g q with
  | none => u = noGe ∧ c = 153
  | some h => CopyOf (g.bulk + p.bulk) w w' u (putG g q p) ∧ c = 0
theorem Way.grow {w w1 : World} {ad ad' : Addr} {q : List Int} (h : Way w ad q ad') (hb : Below w.heap.size w w1) : Way w1 ad q ad' := by
  induction h with
  | nil ad => exact .nil _
  | cons h h0 h1 t ih => exact .cons (cell_below hb h) h0 h1 ih
theorem cells4 (w : World) (b o : Nat) (x0 x1 x2 x3 : Value) : (((w.setCell ⟨b, o, none⟩ x0).setCell ⟨b, o + 1, none⟩ x1).setCell ⟨b, o + 2, none⟩ x2).setCell ⟨b, o + 3, none⟩ x3 = w.setCells b o [x0, x1, x2, x3] := rfl
theorem below_cells (b : Nat) {w w1 : World} (h : Below w.heap.size w w1) (hb : w.heap.size ≤ b) : ∀ (vs : List Value) (o : Nat), Below w.heap.size w (w1.setCells b o vs) := by
  intro vs
  induction vs generalizing w1 with
  | nil => intro o; exact h
  | cons v vs ih => intro o; exact ih (h.setCell (p := ⟨b, o, none⟩) hb v) (o + 1)
/-- The boxes of a walk of Put. -/
structure PtW (w : World) (gg gp gr : Nat) (gc pc : Array Value) (g p : Ge) (W : World) : Prop where
  bg : W.heap[gg]? = some (.cells gc 26 (0, 0))
  bp : W.heap[gp]? = some (.cells pc 26 (0, 0))
  r : W.heap[gr]? = some (.cells #[.int .i64 0, .slice none 0 0, .slice none 0 0, .slice none 0 0] 26 (0, 0))
  G : IsG W (.agg gc) g
  P : IsG W (.agg pc) p
  B : Below w.heap.size w W
theorem PtW.below {w W W' : World} {gg gp gr : Nat} {gc pc : Array Value} {g p : Ge} (h : PtW w gg gp gr gc pc g p W) (hb : Below W.heap.size W W') : PtW w gg gp gr gc pc g p W' :=
  ⟨blk_below h.bg hb, blk_below h.bp hb, blk_below h.r hb, h.G.below hb, h.P.below hb, below_step h.B hb⟩
theorem four_of {α : Type} : ∀ {l : List α}, l.length = 4 → ∃ a b c d, l = [a, b, c, d]
  | [a, b, c, d], _ => ⟨a, b, c, d, rfl⟩
theorem PtW.cells {w W : World} {gg gp gr : Nat} {gc pc : Array Value} {g p : Ge} (h : PtW w gg gp gr gc pc g p W) (hv : IsG w (.agg gc) g) (hu : IsG w (.agg pc) p) (vs : List Value) (b o : Nat) (hb : w.heap.size ≤ b) (h1 : gg ≠ b) (h2 : gp ≠ b) (h3 : gr ≠ b) : PtW w gg gp gr gc pc g p (W.setCells b o vs) := by
  have hB := below_cells b h.B hb vs o
  exact ⟨(setCells_far vs o gg h1).trans h.bg, (setCells_far vs o gp h2).trans h.bp, (setCells_far vs o gr h3).trans h.r, hv.below hB, hu.below hB, hB⟩
set_option maxRecDepth 100000 in
set_option maxHeartbeats 8000000 in
theorem Put_calls (v u : Value) (g p : Ge) (A : Option Addr) (n c : Nat) (q : List Int) (w : World) (hv : IsG w v g) (hu : IsG w u p) (hs : g.bulk + p.bulk ≤ 1073741824) (hn : n = q.length) (hp : Kd.C (Kd.int .i64) w A n q) :
    Calls Try.prog 13 #[v, .slice A n c, u] w fun e w' => ∃ x c, e = .returned (.tuple #[x, .int .i64 c]) ∧ PutRes w w' g q p x c ∧ Below w.heap.size w w' := by
  subst hn
  have HV := Aside0.mk hv
  have HU := Aside0.mk hu
  have HP := Aside0.mk hp
  obtain ⟨A1, c1, A2, c2, A3, c3, rfl, _⟩ := hv
  obtain ⟨D1, d1, D2, d2, D3, d3, rfl, _⟩ := hu
  have hun := Try.underlying26
  clear hp
  have hmx : Try.prog.follows .mixedOrders = true := by kernel_rfl
  have HB0 := Aside0.mk (Below.refl w.heap.size w)
  go_enter Try.func13, Try.ntmps13
  go_wp2_with fail
  obtain ⟨gg, hgg⟩ : ∃ x, x = w.heap.size := ⟨_, rfl⟩
  obtain ⟨gp, hgp⟩ : ∃ x, x = w.heap.size + 1 := ⟨_, rfl⟩
  obtain ⟨gr, hgr⟩ : ∃ x, x = w.heap.size + 1 + 1 := ⟨_, rfl⟩
  obtain ⟨W0, hW0⟩ : ∃ x, x = (((w.alloc (.cells #[.int .i64 g.f0, .slice A1 g.f1.length c1, .slice A2 g.f2.length c2, .slice A3 g.f3.length c3] 26)).alloc (.cells #[.int .i64 p.f0, .slice D1 p.f1.length d1, .slice D2 p.f2.length d2, .slice D3 p.f3.length d3] 26)).alloc (.cells #[.int .i64 0, .slice none 0 0, .slice none 0 0, .slice none 0 0] 26)) := ⟨_, rfl⟩
  rw [← hW0, ← hgr, ← hgp, ← hgg]
  have PT := Aside0.mk (show PtW w gg gp gr #[.int .i64 g.f0, .slice A1 g.f1.length c1, .slice A2 g.f2.length c2, .slice A3 g.f3.length c3] #[.int .i64 p.f0, .slice D1 p.f1.length d1, .slice D2 p.f2.length d2, .slice D3 p.f3.length d3] g p W0 by
    rw [hW0, hgg, hgp, hgr]
    have e1 : w.heap.size + 1 = (w.alloc (.cells #[.int .i64 g.f0, .slice A1 g.f1.length c1, .slice A2 g.f2.length c2, .slice A3 g.f3.length c3] 26)).heap.size := by simp
    have e2 : w.heap.size + 1 + 1 = ((w.alloc (.cells #[.int .i64 g.f0, .slice A1 g.f1.length c1, .slice A2 g.f2.length c2, .slice A3 g.f3.length c3] 26)).alloc (.cells #[.int .i64 p.f0, .slice D1 p.f1.length d1, .slice D2 p.f2.length d2, .slice D3 p.f3.length d3] 26)).heap.size := by simp
    have b0 : Below w.heap.size w (((w.alloc (.cells #[.int .i64 g.f0, .slice A1 g.f1.length c1, .slice A2 g.f2.length c2, .slice A3 g.f3.length c3] 26)).alloc (.cells #[.int .i64 p.f0, .slice D1 p.f1.length d1, .slice D2 p.f2.length d2, .slice D3 p.f3.length d3] 26)).alloc (.cells #[.int .i64 0, .slice none 0 0, .slice none 0 0, .slice none 0 0] 26)) := below_alloc (below_alloc (below_alloc (Below.refl _ _) _) _) _
    refine ⟨blk_alloc (blk_alloc (World.alloc_heap_new _ _) _) _, ?_, ?_, HV.out.below b0, HU.out.below b0, b0⟩
    · rw [e1]; exact blk_alloc (World.alloc_heap_new _ _) _
    · rw [e2]; exact World.alloc_heap_new _ _)
  have HORD := Aside0.mk (show w.heap.size ≤ gg ∧ gg < gp ∧ gp < gr ∧ gr < W0.heap.size by
    have := blk_lt PT.out.r
    omega)
  clear hW0 hgg hgp hgr HB0
  have hG : GAt W0 ⟨gg, 0, none⟩ g := GAt.box PT.out.G PT.out.bg rfl
  refine (find_calls g ⟨gg, 0, none⟩ A q.length c q W0 hG (by omega) rfl (Kd.C_below HP.out PT.out.B)).mono ?_
  rintro e w1 ⟨r, rfl, rfl, hf⟩
  cases hq : findR g q with
  | none =>
    obtain rfl := hf.at_none hq
    have HQ := Aside0.mk hq
    have r0 : w1.cell? ⟨gr, 0, none⟩ = some (.int .i64 0) := (blk_cell PT.out.r 0).trans rfl
    have r1 : w1.cell? ⟨gr, 1, none⟩ = some (.slice none 0 0) := (blk_cell PT.out.r 1).trans rfl
    have r2 : w1.cell? ⟨gr, 2, none⟩ = some (.slice none 0 0) := (blk_cell PT.out.r 2).trans rfl
    have r3 : w1.cell? ⟨gr, 3, none⟩ = some (.slice none 0 0) := (blk_cell PT.out.r 3).trans rfl
    have t0 := blk_frozen PT.out.r 0
    have t1 := blk_frozen PT.out.r 1
    have t2 := blk_frozen PT.out.r 2
    have t3 := blk_frozen PT.out.r 3
    clear hq hf hG
    go_wp2_with fail
    have bk := blk_set (blk_set (blk_set (blk_set PT.out.r 0 (.int .i64 0)) 1 (.slice none 0 0)) 2 (.slice none 0 0)) 3 (.slice none 0 0)
    refine bodyPost_ret (results_geom2 (a := 6) (c := 7) (by rfl) _ _ (by rfl) (by simpa using bk)) rfl ?_
    have hgr : w.heap.size ≤ gr := by have := HORD.out; omega
    refine ⟨_, _, rfl, ?_, (((PT.out.B.setCell (p := ⟨gr, 0, none⟩) hgr _).setCell (p := ⟨gr, 1, none⟩) hgr _).setCell (p := ⟨gr, 2, none⟩) hgr _).setCell (p := ⟨gr, 3, none⟩) hgr _⟩
    unfold PutRes
    rw [HQ.out]
    exact ⟨rfl, rfl⟩
  | some k =>
    obtain ⟨ad0, rfl, _, _⟩ := hf.at_some hq
    have HQ := Aside0.mk hq
    have hat : at_ g q = some k := by unfold findR at hq; split at hq; cases hq; exact hq
    have HAT := Aside0.mk hat
    have hql : q.length + k.bulk ≤ g.bulk := at_len q g k hat
    have PT0 := Aside0.mk PT.out.B.size
    clear hq hf hG hat
    have z0 : w1.cell? ⟨gg, 0, none⟩ = some (.int .i64 g.f0) := (blk_cell PT.out.bg 0).trans rfl
    have z1 : w1.cell? ⟨gg, 1, none⟩ = some (.slice A1 g.f1.length c1) := (blk_cell PT.out.bg 1).trans rfl
    have z2 : w1.cell? ⟨gg, 2, none⟩ = some (.slice A2 g.f2.length c2) := (blk_cell PT.out.bg 2).trans rfl
    have z3 : w1.cell? ⟨gg, 3, none⟩ = some (.slice A3 g.f3.length c3) := (blk_cell PT.out.bg 3).trans rfl
    go_wp2_with fail
    obtain ⟨N, hN⟩ : ∃ N, N = g.bulk + p.bulk := ⟨_, rfl⟩
    have HN := Aside0.mk hN
    have hNb : g.bulk ≤ N ∧ p.bulk ≤ N - q.length ∧ N ≤ 1073741824 ∧ q.length ≤ N := by omega
    clear hN
    refine (copy_calls N _ g w1 PT.out.G hNb.1 hNb.2.2.1).mono ?_
    rintro e w2 ⟨_, rfl, ⟨cs, rfl, hM⟩, hb2⟩
    obtain ⟨E1, e1, E2, e2, E3, e3, rfl, _⟩ := kGe_open (kSp_K _ ((kSp _).K_of_M hM))
    have HS1 := Aside0.mk (show w1.heap.size ≤ w2.heap.size from hb2.size)
    have PT2 := Aside0.mk (PT.out.below hb2)
    have HM2 := Aside0.mk ((kSp N).M_lower PT.out.B.size ((kSp N).M_mono (fun x hx => ⟨hx.1, hx.2.2.1⟩) ((kSp N).M_bound hM)) : (kSp N).M w2 w.heap.size (fun x => w1.heap.size ≤ x ∧ x < w2.heap.size) g [.int .i64 g.f0, .slice E1 g.f1.length e1, .slice E2 g.f2.length e2, .slice E3 g.f3.length e3])
    clear PT hM hb2 z0 z1 z2 z3
    go_wp2_with fail
    obtain ⟨go_, hgo⟩ : ∃ x, x = w2.heap.size := ⟨_, rfl⟩
    obtain ⟨W3, hW3⟩ : ∃ x, x = w2.alloc (.cells #[.int .i64 g.f0, .slice E1 g.f1.length e1, .slice E2 g.f2.length e2, .slice E3 g.f3.length e3] 26) := ⟨_, rfl⟩
    rw [← hW3, ← hgo]
    have KO := Aside0.mk (show W3.heap[go_]? = some (.cells #[.int .i64 g.f0, .slice E1 g.f1.length e1, .slice E2 g.f2.length e2, .slice E3 g.f3.length e3] 26 (0, 0)) by rw [hW3, hgo]; exact World.alloc_heap_new _ _)
    have hb3 : Below w2.heap.size w2 W3 := by rw [hW3]; exact below_alloc (Below.refl _ _) _
    have PT3 := Aside0.mk (PT2.out.below hb3)
    have HM3 := Aside0.mk ((kSp N).M_mono (fun x hx => (by rw [hgo]; exact hx : w1.heap.size ≤ x ∧ x < go_)) ((kSp N).M_move (w1 := W3) (fun x hx => hb3.block x hx.2) HM2.out))
    have HS2 := Aside0.mk (show w1.heap.size ≤ go_ by rw [hgo]; exact HS1.out)
    clear PT2 HM2 hW3 hgo hb3 HS1
    refine start_ (n := 6) (S := fun w' => w'.cell? ⟨gp, 0, none⟩ = some (.int .i64 p.f0) ∧ w'.cell? ⟨gp, 1, none⟩ = some (.slice D1 p.f1.length d1) ∧ w'.cell? ⟨gp, 2, none⟩ = some (.slice D2 p.f2.length d2) ∧ w'.cell? ⟨gp, 3, none⟩ = some (.slice D3 p.f3.length d3) ∧ True) (ds := [5]) #[false, false, false, false, false, false] hmx rfl rfl ⟨(blk_cell (w := W3.drew) PT3.out.bp 0).trans rfl, (blk_cell (w := W3.drew) PT3.out.bp 1).trans rfl, (blk_cell (w := W3.drew) PT3.out.bp 2).trans rfl, (blk_cell (w := W3.drew) PT3.out.bp 3).trans rfl, trivial⟩ (fun hHeld => ?_)
    have PT4 := Aside0.mk (PT3.out.below (below_drew (Below.refl _ _)))
    have KO4 := Aside0.mk (blk_below KO.out (below_drew (Below.refl _ _)))
    have HM4 := Aside0.mk ((kSp N).M_move (w := W3) (w1 := W3.drew) (fun x _ => rfl) HM3.out)
    clear PT3 KO HM3
    generalize W3.drew = W4 at PT4 KO4 HM4 hHeld ⊢
    (refine pure_ (i := 0) (N := some 15) (v := ?_) (a' := ?_) #[true, false, false, false, false, false] rfl rfl (by kernel_rfl) (fun _ _ _ h => h) (Or.inl ⟨by rfl, ?_⟩) ?_ ?_; rotate_left; (focus (intro w'_; go_simp; with_reducible rfl)); rotate_left; (focus (simp only [Act.put, List.setIfInBounds_toArray, List.set_cons_zero, List.set_cons_succ]; rfl)))
    (refine take_ (i := 2) (N := some 17) (v := ?_) (a' := ?_) #[true, false, true, false, false, false] rfl rfl (by kernel_rfl) (fun _ _ _ h => h) (Or.inl ⟨by rfl, ?_⟩) hHeld ?_ ?_; rotate_left; (focus (intro w'_ hs_; (repeat obtain ⟨_, hs_⟩ := hs_); go_simp; with_reducible rfl)); rotate_left; (focus (simp only [Act.put, List.setIfInBounds_toArray, List.set_cons_zero, List.set_cons_succ]; rfl)))
    refine one_ (i := 1) (N := some 16) #[true, true, true, false, false, false] rfl rfl (by kernel_rfl) (by decide) (fun K hK => ?_)
    refine goes_ Try.func38 (by kernel_rfl) rfl #[.pointer (some ⟨go_, 0, none⟩), .slice A q.length c] (by rfl) rfl rfl (by (try simp only [List.map_toArray, List.map_cons, List.map_nil]); first | done | rfl) ?_
    have hG4 : GAt W4 ⟨go_, 0, none⟩ g := GAt.box (IsG.of (kSp_K _ ((kSp N).K_of_M HM4.out))) KO4.out rfl
    refine (find_calls g ⟨go_, 0, none⟩ A q.length c q W4 hG4 (by omega) rfl (Kd.C_below HP.out PT4.out.B)).mono ?_
    rintro e W4' ⟨r, rfl, rfl, hf⟩
    obtain ⟨ad', rfl, hway, hgk⟩ := hf.at_some HQ.out
    have HW4 := Aside0.mk hway
    clear hf hG4 hway hgk
    refine ⟨_, rfl, hK.out _ _ ⟨(blk_cell PT4.out.bp 0).trans rfl, (blk_cell PT4.out.bp 1).trans rfl, (blk_cell PT4.out.bp 2).trans rfl, (blk_cell PT4.out.bp 3).trans rfl, trivial⟩ (fun hHeld2 => ?_)⟩
    clear hK K hHeld
    (refine norm_ (a' := ?_) ?_ ?_; rotate_left; focus (show Act.put _ (some 16) _ = _; simp only [Act.put, List.setIfInBounds_toArray, List.set_cons_zero, List.set_cons_succ]; rfl))
    refine one_ (i := 3) (N := some 18) #[true, true, true, true, false, false] rfl rfl (by kernel_rfl) (by decide) (fun K hK => ?_)
    refine goes_ Try.func24 (by kernel_rfl) rfl #[.agg #[.int .i64 p.f0, .slice D1 p.f1.length d1, .slice D2 p.f2.length d2, .slice D3 p.f3.length d3]] (by rfl) rfl rfl (by (try simp only [List.map_toArray, List.map_cons, List.map_nil]); first | done | rfl) ?_
    refine (copy_calls (N - q.length) _ p W4' PT4.out.P hNb.2.1 (by omega)).mono ?_
    rintro e W5 ⟨_, rfl, ⟨cp, rfl, hMp⟩, hb5⟩
    obtain ⟨F1, f1, F2, f2, F3, f3, rfl, _⟩ := kGe_open (kSp_K _ ((kSp _).K_of_M hMp))
    have HSZ := Aside0.mk (show go_ < W4'.heap.size from blk_lt KO4.out)
    have PT5 := Aside0.mk (PT4.out.below hb5)
    have KO5 := Aside0.mk (blk_below KO4.out hb5)
    have HM5 := Aside0.mk ((kSp N).M_move (w1 := W5) (fun x hx => hb5.block x (Nat.lt_trans hx.2 HSZ.out)) HM4.out)
    have HP5 := Aside0.mk ((kSp (N - q.length)).M_lower PT4.out.B.size hMp : (kSp (N - q.length)).M W5 w.heap.size (fun x => W4'.heap.size ≤ x) p [.int .i64 p.f0, .slice F1 p.f1.length f1, .slice F2 p.f2.length f2, .slice F3 p.f3.length f3])
    have HW5 := Aside0.mk (HW4.out.grow hb5)
    have HB5 := Aside0.mk (show W4'.heap.size ≤ W5.heap.size from hb5.size)
    refine ⟨_, rfl, hK.out _ _ ⟨(blk_cell PT5.out.bp 0).trans rfl, (blk_cell PT5.out.bp 1).trans rfl, (blk_cell PT5.out.bp 2).trans rfl, (blk_cell PT5.out.bp 3).trans rfl, trivial⟩ (fun hHeld => ?_)⟩
    clear hK K hHeld2 PT4 KO4 HM4 HW4 hMp hb5
    (refine norm_ (a' := ?_) ?_ ?_; rotate_left; focus (show Act.put _ (some 18) _ = _; simp only [Act.put, List.setIfInBounds_toArray, List.set_cons_zero, List.set_cons_succ]; rfl))
    obtain ⟨b, o, x0, x1, x2, x3, e0, hx, hfr, hend⟩ : ∃ (b o : Nat) (x0 x1 x2 x3 : Value), ad' = ⟨b, o, none⟩ ∧ (∀ j y, [x0, x1, x2, x3][j]? = some y → W5.cell? ⟨b, o + j, none⟩ = some y) ∧ (∀ j, W5.frozen? ⟨b, o + j, none⟩ = false) ∧
        (∃ rc : List Value, (W5.setCells b o [.int .i64 p.f0, .slice F1 p.f1.length f1, .slice F2 p.f2.length f2, .slice F3 p.f3.length f3]).heap[go_]? = some (.cells rc.toArray 26 (0, 0)) ∧ (kSp N).M (W5.setCells b o [.int .i64 p.f0, .slice F1 p.f1.length f1, .slice F2 p.f2.length f2, .slice F3 p.f3.length f3]) w.heap.size (fun x => w1.heap.size ≤ x ∧ x ≠ go_) (putG g q p) rc ∧ w.heap.size ≤ b ∧ b ≠ gr ∧ PtW w gg gp gr #[.int .i64 g.f0, .slice A1 g.f1.length c1, .slice A2 g.f2.length c2, .slice A3 g.f3.length c3] #[.int .i64 p.f0, .slice D1 p.f1.length d1, .slice D2 p.f2.length d2, .slice D3 p.f3.length d3] g p (W5.setCells b o [.int .i64 p.f0, .slice F1 p.f1.length f1, .slice F2 p.f2.length f2, .slice F3 p.f3.length f3])) := by
      have hord := HORD.out
      have hsz := HSZ.out
      have hs2 := HS2.out
      have hbase : w.heap.size ≤ w1.heap.size := PT0.out
      cases q with
      | nil =>
        have e := HW5.out.nil_of
        refine ⟨go_, 0, .int .i64 g.f0, .slice E1 g.f1.length e1, .slice E2 g.f2.length e2, .slice E3 g.f3.length e3, e, fun j y hy => ?_, fun j => ?_, [.int .i64 p.f0, .slice F1 p.f1.length f1, .slice F2 p.f2.length f2, .slice F3 p.f3.length f3], ?_, ?_, by omega, by omega, PT5.out.cells HV.out HU.out _ go_ 0 (by omega) (by omega) (by omega) (by omega)⟩
        · have h := blk_cell KO5.out (0 + j)
          rw [h, Nat.zero_add]
          simpa using hy
        · have h := blk_frozen KO5.out (0 + j)
          exact h
        · rw [← cells4]
          simpa using blk_set (blk_set (blk_set (blk_set KO5.out 0 (.int .i64 p.f0)) 1 (.slice F1 p.f1.length f1)) 2 (.slice F2 p.f2.length f2)) 3 (.slice F3 p.f3.length f3)
        · exact (kSp N).M_mono (fun x hx => ⟨by omega, by omega⟩) ((kSp N).M_move (w := W5) (fun x hx => setCells_far _ 0 x (by omega)) HP5.out)
      | cons i q =>
        have hN1 : N = (N - (i :: q).length) + q.length + 1 := by
          have := hNb.2.2.2
          rw [List.length_cons] at this ⊢
          omega
        have hM5 := HM5.out
        rw [hN1] at hM5
        obtain ⟨d1, d2, d3, d4, ⟨cc, d5, d6⟩, d7, d8⟩ := put_deep W5 w.heap.size (fun x => W4'.heap.size ≤ x) p k [.int .i64 p.f0, .slice F1 p.f1.length f1, .slice F2 p.f2.length f2, .slice F3 p.f3.length f3] q i g (N - (i :: q).length) go_ 0 [.int .i64 g.f0, .slice E1 g.f1.length e1, .slice E2 g.f2.length e2, .slice E3 g.f3.length e3] (fun x => w1.heap.size ≤ x ∧ x < go_) ad' hM5 (fun j y hy => by
          have h := blk_cell KO5.out (0 + j)
          rw [h, Nat.zero_add]
          simpa using hy) HAT.out HW5.out HP5.out (fun x hx hx' => by omega) (fun x hx => by omega)
        rw [← hN1] at d7
        have hne : ad'.block ≠ go_ := by omega
        obtain ⟨x0, x1, x2, x3, rfl⟩ := four_of d5
        refine ⟨ad'.block, ad'.off, x0, x1, x2, x3, d1, d6, d4, [.int .i64 g.f0, .slice E1 g.f1.length e1, .slice E2 g.f2.length e2, .slice E3 g.f3.length e3], ?_, ?_, by omega, by omega, PT5.out.cells HV.out HU.out _ _ _ (by omega) (by omega) (by omega) (by omega)⟩
        · exact (setCells_far _ _ go_ (Ne.symm hne)).trans KO5.out
        · exact (kSp N).M_mono (fun x hx => by
            rcases hx with hx | hx
            · exact ⟨hx.1, by omega⟩
            · exact ⟨by omega, by omega⟩) d7
    subst e0
    have HEND := Aside0.mk hend
    clear hend
    have hs0 : W5.cell? ⟨b, o, none⟩ = some x0 := hx 0 x0 rfl
    have hf0 : W5.frozen? ⟨b, o, none⟩ = false := hfr 0
    have hs1 : W5.cell? ⟨b, o + 1, none⟩ = some x1 := hx 1 x1 rfl
    have hf1 : W5.frozen? ⟨b, o + 1, none⟩ = false := hfr 1
    have hs2 : W5.cell? ⟨b, o + 2, none⟩ = some x2 := hx 2 x2 rfl
    have hf2 : W5.frozen? ⟨b, o + 2, none⟩ = false := hfr 2
    have hs3 : W5.cell? ⟨b, o + 3, none⟩ = some x3 := hx 3 x3 rfl
    have hf3 : W5.frozen? ⟨b, o + 3, none⟩ = false := hfr 3
    (refine pure_ (i := 4) (N := some 19) (v := ?_) (a' := ?_) #[true, true, true, true, true, false] rfl rfl (by kernel_rfl) (fun _ _ _ h => h) (Or.inl ⟨by rfl, ?_⟩) ?_ ?_; rotate_left; (focus (intro w'_; go_simp; with_reducible rfl)); rotate_left; (focus (simp only [Act.put, List.setIfInBounds_toArray, List.set_cons_zero, List.set_cons_succ]; rfl)))
    refine last_ (i := 5) (N := none) #[true, true, true, true, true, true] rfl rfl (by kernel_rfl) (by decide) (fun K hK => ?_)
    refine skip_ (w1 := ?_) (by rfl) rfl ?_ ?_
    rotate_left
    · go_simp
      rfl
    refine hK.out _ _ ?_
    clear hK K
    refine done_ (by kernel_rfl) ?_
    rw [cells4]
    obtain ⟨rc, hr1, hr2, hr3, hr4, hr5⟩ := HEND.out
    obtain ⟨W6, hW6⟩ : ∃ x, x = W5.setCells b o [.int .i64 p.f0, .slice F1 p.f1.length f1, .slice F2 p.f2.length f2, .slice F3 p.f3.length f3] := ⟨_, rfl⟩
    rw [← hW6] at hr1 hr2 hr5 ⊢
    obtain ⟨I1, i1, I2, i2, I3, i3, rfl, _⟩ := kGe_open (kSp_K _ ((kSp _).K_of_M hr2))
    have PT6 := Aside0.mk hr5
    have KO6 := Aside0.mk hr1
    have HM6 := Aside0.mk hr2
    clear hr1 hr2 hr3 hr4 hr5 hW6 HEND hs0 hs1 hs2 hs3 hf0 hf1 hf2 hf3 hx hfr hHeld PT5 KO5 HM5 HP5 HW5
    have z0 : W6.cell? ⟨go_, 0, none⟩ = some (.int .i64 (putG g q p).f0) := (blk_cell KO6.out 0).trans rfl
    have z1 : W6.cell? ⟨go_, 1, none⟩ = some (.slice I1 (putG g q p).f1.length i1) := (blk_cell KO6.out 1).trans rfl
    have z2 : W6.cell? ⟨go_, 2, none⟩ = some (.slice I2 (putG g q p).f2.length i2) := (blk_cell KO6.out 2).trans rfl
    have z3 : W6.cell? ⟨go_, 3, none⟩ = some (.slice I3 (putG g q p).f3.length i3) := (blk_cell KO6.out 3).trans rfl
    have r0 : W6.cell? ⟨gr, 0, none⟩ = some (.int .i64 0) := (blk_cell PT6.out.r 0).trans rfl
    have t0 := blk_frozen PT6.out.r 0
    have r1 : W6.cell? ⟨gr, 1, none⟩ = some (.slice none 0 0) := (blk_cell PT6.out.r 1).trans rfl
    have t1 := blk_frozen PT6.out.r 1
    have r2 : W6.cell? ⟨gr, 2, none⟩ = some (.slice none 0 0) := (blk_cell PT6.out.r 2).trans rfl
    have t2 := blk_frozen PT6.out.r 2
    have r3 : W6.cell? ⟨gr, 3, none⟩ = some (.slice none 0 0) := (blk_cell PT6.out.r 3).trans rfl
    have t3 := blk_frozen PT6.out.r 3
    go_wp2_with fail
    have bk := (blk_set (blk_set (blk_set (blk_set PT6.out.r 0 (.int .i64 (putG g q p).f0)) 1 (.slice I1 (putG g q p).f1.length i1)) 2 (.slice I2 (putG g q p).f2.length i2)) 3 (.slice I3 (putG g q p).f3.length i3))
    refine bodyPost_ret (results_geom2 (a := 6) (c := 7) (by rfl) _ _ (by rfl) (by simpa using bk)) rfl ?_
    have hord := HORD.out
    have hgr : w.heap.size ≤ gr := by omega
    refine ⟨_, _, rfl, ?_, ((((PT6.out.B.setCell (p := ⟨gr, 0, none⟩) hgr _).setCell (p := ⟨gr, 1, none⟩) hgr _).setCell (p := ⟨gr, 2, none⟩) hgr _).setCell (p := ⟨gr, 3, none⟩) hgr _)⟩
    unfold PutRes
    rw [HQ.out, ← HN.out]
    refine ⟨⟨[.int .i64 (putG g q p).f0, .slice I1 (putG g q p).f1.length i1, .slice I2 (putG g q p).f2.length i2, .slice I3 (putG g q p).f3.length i3], rfl, ?_⟩, rfl⟩
    exact (kSp N).M_mono (fun x hx => Nat.le_trans PT0.out hx.1) (Kd.M_far (p := ⟨gr, 3, none⟩) (Kd.M_far (p := ⟨gr, 2, none⟩) (Kd.M_far (p := ⟨gr, 1, none⟩) (Kd.M_far (p := ⟨gr, 0, none⟩) HM6.out (fun x h => by show x ≠ gr; omega) _) (fun x h => by show x ≠ gr; omega) _) (fun x h => by show x ≠ gr; omega) _) (fun x h => by show x ≠ gr; omega) _)
end Go.Proofs.Ytmcbniobbbjdjaa.Tree
