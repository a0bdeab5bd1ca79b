/- The reference's Put by contract. No conditions but those told. -/
import Derived.Test.YtmcbniobbbjdjaaTPut
import Derived.Test.YtmcbniobbbjdjaaTRFind
namespace Go.Proofs.Ytmcbniobbbjdjaa.Tree
open Go.RowKit Go.Proofs.YtmcbniobbbjdjaaW.PrintWords Go.Proofs.YtmcbniobbbjdjaaW.PrintLast Go.Proofs.YtmcbniobbbjdjaaW.PrintMore
set_option linter.unusedVariables false
set_option linter.unusedSimpArgs false
/-- What the reference's Put answers. -/
def RPutRes (N : Nat) (w w' : World) (g : Ge) (q : List Int) (p : Ge) (u : Value) (c : Int) : Prop := match findR g q with
  | none => u = noGe ∧ c = 153
  | some h => CopyOf N w w' u (putG g q p) ∧ c = 0
theorem FindRes.none_ {w w' : World} {g : Ge} {q : List Int} {u : Value} {c : Int} (h : FindRes w w' g q u c) (e : findR g q = none) : u = noGe ∧ c = 153 := by unfold FindRes at h; rw [e] at h; exact h
theorem FindRes.some_ {w w' : World} {g k : Ge} {q : List Int} {u : Value} {c : Int} (h : FindRes w w' g q u c) (e : findR g q = some k) : CopyOf k.bulk w w' u k ∧ c = 0 := by unfold FindRes at h; rw [e] at h; exact h
theorem findR_at {g k : Ge} {q : List Int} (h : findR g q = some k) : at_ g q = some k := by unfold findR at h; split at h; cases h; exact h
theorem CopyOf.agg {n : Nat} {w w' : World} {u : Value} {k : Ge} (h : CopyOf n w w' u k) : ∃ E1 e1 E2 e2 E3 e3, u = .agg #[.int .i64 k.f0, .slice E1 k.f1.length e1, .slice E2 k.f2.length e2, .slice E3 k.f3.length e3] := by
  obtain ⟨cs, rfl, hM⟩ := h
  obtain ⟨E1, e1, E2, e2, E3, e3, rfl, _⟩ := kGe_open (kSp_K _ ((kSp _).K_of_M hM))
  exact ⟨_, _, _, _, _, _, rfl⟩
set_option maxRecDepth 100000 in
set_option maxHeartbeats 8000000 in
theorem rPut_calls : ∀ (q : List Int) (N : Nat) (v u : Value) (g p : Ge) (A : Option Addr) (n c : Nat) (w : World), IsG w v g → IsG w u p → g.bulk + p.bulk ≤ N → N ≤ 1073741824 → n = q.length → n ≤ c → Kd.C (Kd.int .i64) w A n q →
    Calls Try.prog 14 #[v, .slice A n c, u] w fun e w' => ∃ x c, e = .returned (.tuple #[x, .int .i64 c]) ∧ RPutRes N w w' g q p x c ∧ Below w.heap.size w w' := by
  intro q
  induction q with
  | nil =>
    intro N v u g p A n c w hv hu hs hNb hn hnc hp
    subst hn
    have HV := Aside0.mk hv
    have HU := Aside0.mk hu
    have HP := Aside0.mk hp
    obtain ⟨A1, c1, A2, c2, A3, c3, rfl, _⟩ := hv
    obtain ⟨D1, d1, D2, d2, D3, d3, rfl, _⟩ := hu
    have hun := Try.underlying26
    clear hp
    have hmx : Try.prog.follows .mixedOrders = true := by kernel_rfl
    have HB0 := Aside0.mk (Below.refl w.heap.size w)
    go_enter Try.func14, Try.ntmps14
    go_wp2_with fail
    obtain ⟨gg, hgg⟩ : ∃ x, x = w.heap.size := ⟨_, rfl⟩
    obtain ⟨gp, hgp⟩ : ∃ x, x = w.heap.size + 1 := ⟨_, rfl⟩
    obtain ⟨gr, hgr⟩ : ∃ x, x = w.heap.size + 1 + 1 := ⟨_, rfl⟩
    obtain ⟨W0, hW0⟩ : ∃ x, x = (((w.alloc (.cells #[.int .i64 g.f0, .slice A1 g.f1.length c1, .slice A2 g.f2.length c2, .slice A3 g.f3.length c3] 26)).alloc (.cells #[.int .i64 p.f0, .slice D1 p.f1.length d1, .slice D2 p.f2.length d2, .slice D3 p.f3.length d3] 26)).alloc (.cells #[.int .i64 0, .slice none 0 0, .slice none 0 0, .slice none 0 0] 26)) := ⟨_, rfl⟩
    rw [← hW0, ← hgr, ← hgp, ← hgg]
    have PT := Aside0.mk (show PtW w gg gp gr #[.int .i64 g.f0, .slice A1 g.f1.length c1, .slice A2 g.f2.length c2, .slice A3 g.f3.length c3] #[.int .i64 p.f0, .slice D1 p.f1.length d1, .slice D2 p.f2.length d2, .slice D3 p.f3.length d3] g p W0 by
      rw [hW0, hgg, hgp, hgr]
      have e1 : w.heap.size + 1 = (w.alloc (.cells #[.int .i64 g.f0, .slice A1 g.f1.length c1, .slice A2 g.f2.length c2, .slice A3 g.f3.length c3] 26)).heap.size := by simp
      have e2 : w.heap.size + 1 + 1 = ((w.alloc (.cells #[.int .i64 g.f0, .slice A1 g.f1.length c1, .slice A2 g.f2.length c2, .slice A3 g.f3.length c3] 26)).alloc (.cells #[.int .i64 p.f0, .slice D1 p.f1.length d1, .slice D2 p.f2.length d2, .slice D3 p.f3.length d3] 26)).heap.size := by simp
      have b0 : Below w.heap.size w (((w.alloc (.cells #[.int .i64 g.f0, .slice A1 g.f1.length c1, .slice A2 g.f2.length c2, .slice A3 g.f3.length c3] 26)).alloc (.cells #[.int .i64 p.f0, .slice D1 p.f1.length d1, .slice D2 p.f2.length d2, .slice D3 p.f3.length d3] 26)).alloc (.cells #[.int .i64 0, .slice none 0 0, .slice none 0 0, .slice none 0 0] 26)) := below_alloc (below_alloc (below_alloc (Below.refl _ _) _) _) _
      refine ⟨blk_alloc (blk_alloc (World.alloc_heap_new _ _) _) _, ?_, ?_, HV.out.below b0, HU.out.below b0, b0⟩
      · rw [e1]; exact blk_alloc (World.alloc_heap_new _ _) _
      · rw [e2]; exact World.alloc_heap_new _ _)
    have HORD := Aside0.mk (show w.heap.size ≤ gg ∧ gg < gp ∧ gp < gr ∧ gr < W0.heap.size by
      have := blk_lt PT.out.r
      omega)
    clear hW0 hgg hgp hgr HB0
    refine (rFind_calls (.agg #[.int .i64 g.f0, .slice A1 g.f1.length c1, .slice A2 g.f2.length c2, .slice A3 g.f3.length c3]) g A _ c [] W0 PT.out.G (by omega) rfl (Kd.C_below HP.out PT.out.B)).mono ?_
    rintro e w1 ⟨x1, k1, rfl, hf, hb1⟩
    have PT1 := Aside0.mk (PT.out.below hb1)
    have HSZ0 := Aside0.mk (show W0.heap.size ≤ w1.heap.size from hb1.size)
    clear PT
    cases hq : findR g [] with
    | none =>
      obtain ⟨rfl, rfl⟩ := hf.none_ hq
      have HQ := Aside0.mk hq
      clear hq hf hb1
      unfold noGe
      have PT2 := Aside0.mk (PT1.out.below (below_alloc (Below.refl w1.heap.size w1) (.cells #[.int .i64 0, .slice none 0 0, .slice none 0 0, .slice none 0 0] 26)))
      have r0 : (w1.alloc (.cells #[.int .i64 0, .slice none 0 0, .slice none 0 0, .slice none 0 0] 26)).cell? ⟨gr, 0, none⟩ = some (.int .i64 0) := (blk_cell PT2.out.r 0).trans rfl
      have t0 := blk_frozen PT2.out.r 0
      have r1 : (w1.alloc (.cells #[.int .i64 0, .slice none 0 0, .slice none 0 0, .slice none 0 0] 26)).cell? ⟨gr, 1, none⟩ = some (.slice none 0 0) := (blk_cell PT2.out.r 1).trans rfl
      have t1 := blk_frozen PT2.out.r 1
      have r2 : (w1.alloc (.cells #[.int .i64 0, .slice none 0 0, .slice none 0 0, .slice none 0 0] 26)).cell? ⟨gr, 2, none⟩ = some (.slice none 0 0) := (blk_cell PT2.out.r 2).trans rfl
      have t2 := blk_frozen PT2.out.r 2
      have r3 : (w1.alloc (.cells #[.int .i64 0, .slice none 0 0, .slice none 0 0, .slice none 0 0] 26)).cell? ⟨gr, 3, none⟩ = some (.slice none 0 0) := (blk_cell PT2.out.r 3).trans rfl
      have t3 := blk_frozen PT2.out.r 3
      go_wp2_with fail
      have bk := (blk_set (blk_set (blk_set (blk_set PT2.out.r 0 (.int .i64 0)) 1 (.slice none 0 0)) 2 (.slice none 0 0)) 3 (.slice none 0 0))
      refine bodyPost_ret (results_geom2 (a := 6) (c := 7) (by rfl) _ _ (by rfl) (by simpa using bk)) rfl ?_
      have hord := HORD.out
      have hgr : w.heap.size ≤ gr := by omega
      refine ⟨_, _, rfl, ?_, ((((PT2.out.B.setCell (p := ⟨gr, 0, none⟩) hgr _).setCell (p := ⟨gr, 1, none⟩) hgr _).setCell (p := ⟨gr, 2, none⟩) hgr _).setCell (p := ⟨gr, 3, none⟩) hgr _)⟩
      unfold RPutRes
      rw [HQ.out]
      exact ⟨rfl, rfl⟩
    | some k =>
      obtain ⟨hcp, rfl⟩ := hf.some_ hq
      obtain ⟨X1, y1, X2, y2, X3, y3, rfl⟩ := hcp.agg
      have HQ := Aside0.mk hq
      clear hq hf hcp hb1
      have PT2 := Aside0.mk (PT1.out.below (below_alloc (Below.refl w1.heap.size w1) (.cells #[.int .i64 k.f0, .slice X1 k.f1.length y1, .slice X2 k.f2.length y2, .slice X3 k.f3.length y3] 26)))
      have z0 : (w1.alloc (.cells #[.int .i64 k.f0, .slice X1 k.f1.length y1, .slice X2 k.f2.length y2, .slice X3 k.f3.length y3] 26)).cell? ⟨gp, 0, none⟩ = some (.int .i64 p.f0) := (blk_cell PT2.out.bp 0).trans rfl
      have z1 : (w1.alloc (.cells #[.int .i64 k.f0, .slice X1 k.f1.length y1, .slice X2 k.f2.length y2, .slice X3 k.f3.length y3] 26)).cell? ⟨gp, 1, none⟩ = some (.slice D1 p.f1.length d1) := (blk_cell PT2.out.bp 1).trans rfl
      have z2 : (w1.alloc (.cells #[.int .i64 k.f0, .slice X1 k.f1.length y1, .slice X2 k.f2.length y2, .slice X3 k.f3.length y3] 26)).cell? ⟨gp, 2, none⟩ = some (.slice D2 p.f2.length d2) := (blk_cell PT2.out.bp 2).trans rfl
      have z3 : (w1.alloc (.cells #[.int .i64 k.f0, .slice X1 k.f1.length y1, .slice X2 k.f2.length y2, .slice X3 k.f3.length y3] 26)).cell? ⟨gp, 3, none⟩ = some (.slice D3 p.f3.length d3) := (blk_cell PT2.out.bp 3).trans rfl
      go_wp2_with fail
      obtain ⟨W2, hW2⟩ : ∃ x, x = (w1.alloc (.cells #[.int .i64 k.f0, .slice X1 k.f1.length y1, .slice X2 k.f2.length y2, .slice X3 k.f3.length y3] 26)) := ⟨_, rfl⟩
      rw [← hW2] at z0 z1 z2 z3 ⊢
      have PT3 := Aside0.mk (show PtW w gg gp gr #[.int .i64 g.f0, .slice A1 g.f1.length c1, .slice A2 g.f2.length c2, .slice A3 g.f3.length c3] #[.int .i64 p.f0, .slice D1 p.f1.length d1, .slice D2 p.f2.length d2, .slice D3 p.f3.length d3] g p W2 by rw [hW2]; exact PT2.out)
      have HSZ2 := Aside0.mk (show gr < W2.heap.size by have := HORD.out; have := HSZ0.out; rw [hW2]; simp; omega)
      clear hW2 PT1 PT2 z0 z1 z2 z3
      refine (rcopy_calls N _ p W2 PT3.out.P (by omega) (by omega)).mono ?_
      rintro e W3 ⟨_, rfl, ⟨cs, rfl, hM⟩, hb3⟩
      obtain ⟨F1, f1, F2, f2, F3, f3, rfl, _⟩ := kGe_open (kSp_K _ ((kSp _).K_of_M hM))
      have PT4 := Aside0.mk (PT3.out.below hb3)
      have HM4 := Aside0.mk ((kSp N).M_lower PT3.out.B.size hM : (kSp N).M W3 w.heap.size (fun x => W2.heap.size ≤ x) p [.int .i64 p.f0, .slice F1 p.f1.length f1, .slice F2 p.f2.length f2, .slice F3 p.f3.length f3])
      clear hM hb3 PT3
      have r0 : W3.cell? ⟨gr, 0, none⟩ = some (.int .i64 0) := (blk_cell PT4.out.r 0).trans rfl
      have t0 := blk_frozen PT4.out.r 0
      have r1 : W3.cell? ⟨gr, 1, none⟩ = some (.slice none 0 0) := (blk_cell PT4.out.r 1).trans rfl
      have t1 := blk_frozen PT4.out.r 1
      have r2 : W3.cell? ⟨gr, 2, none⟩ = some (.slice none 0 0) := (blk_cell PT4.out.r 2).trans rfl
      have t2 := blk_frozen PT4.out.r 2
      have r3 : W3.cell? ⟨gr, 3, none⟩ = some (.slice none 0 0) := (blk_cell PT4.out.r 3).trans rfl
      have t3 := blk_frozen PT4.out.r 3
      go_wp2_with fail
      have bk := (blk_set (blk_set (blk_set (blk_set PT4.out.r 0 (.int .i64 p.f0)) 1 (.slice F1 p.f1.length f1)) 2 (.slice F2 p.f2.length f2)) 3 (.slice F3 p.f3.length f3))
      refine bodyPost_ret (results_geom2 (a := 6) (c := 7) (by rfl) _ _ (by rfl) (by simpa using bk)) rfl ?_
      have hord := HORD.out
      have hgr : w.heap.size ≤ gr := by omega
      have hs2 := HSZ2.out
      refine ⟨_, _, rfl, ?_, ((((PT4.out.B.setCell (p := ⟨gr, 0, none⟩) hgr _).setCell (p := ⟨gr, 1, none⟩) hgr _).setCell (p := ⟨gr, 2, none⟩) hgr _).setCell (p := ⟨gr, 3, none⟩) hgr _)⟩
      unfold RPutRes
      rw [HQ.out]
      refine ⟨⟨[.int .i64 p.f0, .slice F1 p.f1.length f1, .slice F2 p.f2.length f2, .slice F3 p.f3.length f3], rfl, ?_⟩, rfl⟩
      exact (kSp N).M_mono (fun x hx => by omega) (Kd.M_far (p := ⟨gr, 3, none⟩) (Kd.M_far (p := ⟨gr, 2, none⟩) (Kd.M_far (p := ⟨gr, 1, none⟩) (Kd.M_far (p := ⟨gr, 0, none⟩) HM4.out (fun x h => by show x ≠ gr; omega) _) (fun x h => by show x ≠ gr; omega) _) (fun x h => by show x ≠ gr; omega) _) (fun x h => by show x ≠ gr; omega) _)
  | cons i q ih =>
  intro N v u g p A n c w hv hu hs hNb hn hnc hp
  subst hn
  have IH := Aside0.mk ih
  clear ih
  have HV := Aside0.mk hv
  have HU := Aside0.mk hu
  have HP := Aside0.mk hp
  obtain ⟨A1, c1, A2, c2, A3, c3, rfl, _⟩ := hv
  obtain ⟨D1, d1, D2, d2, D3, d3, rfl, _⟩ := hu
  have hun := Try.underlying26
  clear hp
  have hmx : Try.prog.follows .mixedOrders = true := by kernel_rfl
  have HB0 := Aside0.mk (Below.refl w.heap.size w)
  go_enter Try.func14, Try.ntmps14
  go_wp2_with fail
  obtain ⟨gg, hgg⟩ : ∃ x, x = w.heap.size := ⟨_, rfl⟩
  obtain ⟨gp, hgp⟩ : ∃ x, x = w.heap.size + 1 := ⟨_, rfl⟩
  obtain ⟨gr, hgr⟩ : ∃ x, x = w.heap.size + 1 + 1 := ⟨_, rfl⟩
  obtain ⟨W0, hW0⟩ : ∃ x, x = (((w.alloc (.cells #[.int .i64 g.f0, .slice A1 g.f1.length c1, .slice A2 g.f2.length c2, .slice A3 g.f3.length c3] 26)).alloc (.cells #[.int .i64 p.f0, .slice D1 p.f1.length d1, .slice D2 p.f2.length d2, .slice D3 p.f3.length d3] 26)).alloc (.cells #[.int .i64 0, .slice none 0 0, .slice none 0 0, .slice none 0 0] 26)) := ⟨_, rfl⟩
  rw [← hW0, ← hgr, ← hgp, ← hgg]
  have PT := Aside0.mk (show PtW w gg gp gr #[.int .i64 g.f0, .slice A1 g.f1.length c1, .slice A2 g.f2.length c2, .slice A3 g.f3.length c3] #[.int .i64 p.f0, .slice D1 p.f1.length d1, .slice D2 p.f2.length d2, .slice D3 p.f3.length d3] g p W0 by
    rw [hW0, hgg, hgp, hgr]
    have e1 : w.heap.size + 1 = (w.alloc (.cells #[.int .i64 g.f0, .slice A1 g.f1.length c1, .slice A2 g.f2.length c2, .slice A3 g.f3.length c3] 26)).heap.size := by simp
    have e2 : w.heap.size + 1 + 1 = ((w.alloc (.cells #[.int .i64 g.f0, .slice A1 g.f1.length c1, .slice A2 g.f2.length c2, .slice A3 g.f3.length c3] 26)).alloc (.cells #[.int .i64 p.f0, .slice D1 p.f1.length d1, .slice D2 p.f2.length d2, .slice D3 p.f3.length d3] 26)).heap.size := by simp
    have b0 : Below w.heap.size w (((w.alloc (.cells #[.int .i64 g.f0, .slice A1 g.f1.length c1, .slice A2 g.f2.length c2, .slice A3 g.f3.length c3] 26)).alloc (.cells #[.int .i64 p.f0, .slice D1 p.f1.length d1, .slice D2 p.f2.length d2, .slice D3 p.f3.length d3] 26)).alloc (.cells #[.int .i64 0, .slice none 0 0, .slice none 0 0, .slice none 0 0] 26)) := below_alloc (below_alloc (below_alloc (Below.refl _ _) _) _) _
    refine ⟨blk_alloc (blk_alloc (World.alloc_heap_new _ _) _) _, ?_, ?_, HV.out.below b0, HU.out.below b0, b0⟩
    · rw [e1]; exact blk_alloc (World.alloc_heap_new _ _) _
    · rw [e2]; exact World.alloc_heap_new _ _)
  have HORD := Aside0.mk (show w.heap.size ≤ gg ∧ gg < gp ∧ gp < gr ∧ gr < W0.heap.size by
    have := blk_lt PT.out.r
    omega)
  clear hW0 hgg hgp hgr HB0
  refine (rFind_calls (.agg #[.int .i64 g.f0, .slice A1 g.f1.length c1, .slice A2 g.f2.length c2, .slice A3 g.f3.length c3]) g A _ c (i :: q) W0 PT.out.G (by omega) rfl (Kd.C_below HP.out PT.out.B)).mono ?_
  rintro e w1 ⟨x1, k1, rfl, hf, hb1⟩
  have PT1 := Aside0.mk (PT.out.below hb1)
  have HSZ0 := Aside0.mk (show W0.heap.size ≤ w1.heap.size from hb1.size)
  clear PT
  cases hq : findR g (i :: q) with
  | none =>
    obtain ⟨rfl, rfl⟩ := hf.none_ hq
    have HQ := Aside0.mk hq
    clear hq hf hb1
    unfold noGe
    have PT2 := Aside0.mk (PT1.out.below (below_alloc (Below.refl w1.heap.size w1) (.cells #[.int .i64 0, .slice none 0 0, .slice none 0 0, .slice none 0 0] 26)))
    have r0 : (w1.alloc (.cells #[.int .i64 0, .slice none 0 0, .slice none 0 0, .slice none 0 0] 26)).cell? ⟨gr, 0, none⟩ = some (.int .i64 0) := (blk_cell PT2.out.r 0).trans rfl
    have t0 := blk_frozen PT2.out.r 0
    have r1 : (w1.alloc (.cells #[.int .i64 0, .slice none 0 0, .slice none 0 0, .slice none 0 0] 26)).cell? ⟨gr, 1, none⟩ = some (.slice none 0 0) := (blk_cell PT2.out.r 1).trans rfl
    have t1 := blk_frozen PT2.out.r 1
    have r2 : (w1.alloc (.cells #[.int .i64 0, .slice none 0 0, .slice none 0 0, .slice none 0 0] 26)).cell? ⟨gr, 2, none⟩ = some (.slice none 0 0) := (blk_cell PT2.out.r 2).trans rfl
    have t2 := blk_frozen PT2.out.r 2
    have r3 : (w1.alloc (.cells #[.int .i64 0, .slice none 0 0, .slice none 0 0, .slice none 0 0] 26)).cell? ⟨gr, 3, none⟩ = some (.slice none 0 0) := (blk_cell PT2.out.r 3).trans rfl
    have t3 := blk_frozen PT2.out.r 3
    go_wp2_with fail
    have bk := (blk_set (blk_set (blk_set (blk_set PT2.out.r 0 (.int .i64 0)) 1 (.slice none 0 0)) 2 (.slice none 0 0)) 3 (.slice none 0 0))
    refine bodyPost_ret (results_geom2 (a := 6) (c := 7) (by rfl) _ _ (by rfl) (by simpa using bk)) rfl ?_
    have hord := HORD.out
    have hgr : w.heap.size ≤ gr := by omega
    refine ⟨_, _, rfl, ?_, ((((PT2.out.B.setCell (p := ⟨gr, 0, none⟩) hgr _).setCell (p := ⟨gr, 1, none⟩) hgr _).setCell (p := ⟨gr, 2, none⟩) hgr _).setCell (p := ⟨gr, 3, none⟩) hgr _)⟩
    unfold RPutRes
    rw [HQ.out]
    exact ⟨rfl, rfl⟩
  | some k =>
    obtain ⟨hcp, rfl⟩ := hf.some_ hq
    obtain ⟨X1, y1, X2, y2, X3, y3, rfl⟩ := hcp.agg
    have HQ := Aside0.mk hq
    clear hq hf hcp hb1
    have hk := at_len (i :: q) g k (findR_at HQ.out)
    rw [List.length_cons] at hk
    have HAT := Aside0.mk (findR_at HQ.out)
    have PT2 := Aside0.mk (PT1.out.below (below_alloc (Below.refl w1.heap.size w1) (.cells #[.int .i64 k.f0, .slice X1 k.f1.length y1, .slice X2 k.f2.length y2, .slice X3 k.f3.length y3] 26)))
    have z0 : (w1.alloc (.cells #[.int .i64 k.f0, .slice X1 k.f1.length y1, .slice X2 k.f2.length y2, .slice X3 k.f3.length y3] 26)).cell? ⟨gg, 0, none⟩ = some (.int .i64 g.f0) := (blk_cell PT2.out.bg 0).trans rfl
    have z1 : (w1.alloc (.cells #[.int .i64 k.f0, .slice X1 k.f1.length y1, .slice X2 k.f2.length y2, .slice X3 k.f3.length y3] 26)).cell? ⟨gg, 1, none⟩ = some (.slice A1 g.f1.length c1) := (blk_cell PT2.out.bg 1).trans rfl
    have z2 : (w1.alloc (.cells #[.int .i64 k.f0, .slice X1 k.f1.length y1, .slice X2 k.f2.length y2, .slice X3 k.f3.length y3] 26)).cell? ⟨gg, 2, none⟩ = some (.slice A2 g.f2.length c2) := (blk_cell PT2.out.bg 2).trans rfl
    have z3 : (w1.alloc (.cells #[.int .i64 k.f0, .slice X1 k.f1.length y1, .slice X2 k.f2.length y2, .slice X3 k.f3.length y3] 26)).cell? ⟨gg, 3, none⟩ = some (.slice A3 g.f3.length c3) := (blk_cell PT2.out.bg 3).trans rfl
    have q0 : ¬ ((q.length : Int) + 1 = 0) := by omega
    have q1 : ((((q.length + 1 : Nat) : Int)) == 0) = false := beq_eq_false_iff_ne.mpr (by omega)
    go_wp2_with fail
    obtain ⟨W2, hW2⟩ : ∃ x, x = (w1.alloc (.cells #[.int .i64 k.f0, .slice X1 k.f1.length y1, .slice X2 k.f2.length y2, .slice X3 k.f3.length y3] 26)) := ⟨_, rfl⟩
    rw [← hW2] at z0 z1 z2 z3 ⊢
    have PT3 := Aside0.mk (show PtW w gg gp gr #[.int .i64 g.f0, .slice A1 g.f1.length c1, .slice A2 g.f2.length c2, .slice A3 g.f3.length c3] #[.int .i64 p.f0, .slice D1 p.f1.length d1, .slice D2 p.f2.length d2, .slice D3 p.f3.length d3] g p W2 by rw [hW2]; exact PT2.out)
    have HSZ2 := Aside0.mk (show gr < W2.heap.size by have := HORD.out; have := HSZ0.out; rw [hW2]; simp; omega)
    clear hW2 PT1 PT2 z0 z1 z2 z3
    obtain ⟨M, hM⟩ : ∃ M, N = M + 1 := ⟨N - 1, by omega⟩
    subst hM
    refine (rcopy_calls (M + 1) _ g W2 PT3.out.G (by omega) (by omega)).mono ?_
    rintro e W3 ⟨_, rfl, ⟨cs, rfl, hM⟩, hb3⟩
    obtain ⟨E1, e1, E2, e2, E3, e3, rfl, _, _, _, _, _, hK3⟩ := kGe_open (kSp_K _ ((kSp _).K_of_M hM))
    have PT4 := PT3.out.below hb3
    have HM4 := Aside0.mk ((kSp (M + 1)).M_lower PT3.out.B.size ((kSp (M + 1)).M_mono (fun x hx => ⟨hx.1, hx.2.2.1⟩) ((kSp (M + 1)).M_bound hM)) : (kSp (M + 1)).M W3 w.heap.size (fun x => W2.heap.size ≤ x ∧ x < W3.heap.size) g [.int .i64 g.f0, .slice E1 g.f1.length e1, .slice E2 g.f2.length e2, .slice E3 g.f3.length e3])
    have HSZ3 := Aside0.mk (show W2.heap.size ≤ W3.heap.size from hb3.size)
    clear hM hb3 PT3
    go_wp2_with fail
    obtain ⟨gh, hgh⟩ : ∃ x, x = W3.heap.size := ⟨_, rfl⟩
    obtain ⟨W4, hW4⟩ : ∃ x, x = W3.alloc (.cells #[.int .i64 g.f0, .slice E1 g.f1.length e1, .slice E2 g.f2.length e2, .slice E3 g.f3.length e3] 26) := ⟨_, rfl⟩
    rw [← hW4, ← hgh]
    have hb4 : Below W3.heap.size W3 W4 := by rw [hW4]; exact below_alloc (Below.refl _ _) _
    have KH5 := Aside0.mk (show W4.heap[gh]? = some (.cells #[.int .i64 g.f0, .slice E1 g.f1.length e1, .slice E2 g.f2.length e2, .slice E3 g.f3.length e3] 26 (0, 0)) by rw [hW4, hgh]; exact World.alloc_heap_new _ _)
    have PT5 := Aside0.mk (PT4.below hb4)
    have HM5 := Aside0.mk ((kSp (M + 1)).M_mono (fun x hx => (by rw [hgh]; exact hx : W2.heap.size ≤ x ∧ x < gh)) ((kSp (M + 1)).M_move (w := W3) (w1 := W4) (fun x hx => hb4.block x hx.2) HM4.out))
    have HSZ4 := Aside0.mk (show W2.heap.size ≤ gh by rw [hgh]; exact HSZ3.out)
    obtain ⟨hir, hat2⟩ := at_cons HAT.out
    obtain ⟨a4, ea4, _⟩ := GAt.part hK3 i hir.1 hir.2
    obtain ⟨a3, B1, b1, B2, b2, B3, b3, ea3, p0, p1, p2, p3, m1, q1, m2, q2, m3, q3⟩ := at_Ge HV.out.parts i hir.1 hir.2
    obtain ⟨a2, ea2, hx⟩ := at_I HP.out 0 rfl (by simp)
    subst ea4 ea3 ea2
    have hx' : w.cell? a2 = some (.int .i64 i) := by
      have e : a2.add 0 = a2 := by cases a2; simp [Addr.add]
      rw [e] at hx
      exact hx
    obtain ⟨gx, hgx⟩ : ∃ x, x = rd_Ge g.f3 i := ⟨_, rfl⟩
    rw [← hgx] at p0 p1 p2 p3 q1 q2 q3 m1 m2 m3 hat2
    have Q0 := Aside0.mk p0
    have Q1 := Aside0.mk p1
    have Q2 := Aside0.mk p2
    have Q3 := Aside0.mk p3
    have HX := Aside0.mk hx'
    have HGX := Aside0.mk (show IsG w (.agg #[.int .i64 gx.f0, .slice B1 gx.f1.length b1, .slice B2 gx.f2.length b2, .slice B3 gx.f3.length b3]) gx from ⟨B1, b1, B2, b2, B3, b3, rfl, m1, q1, m2, q2, m3, q3⟩)
    have HXE := Aside0.mk hgx
    have hbx : gx.bulk + p.bulk ≤ M := by
      rw [hgx]
      have hl : i.toNat < g.f3.length := by omega
      have h2 := bulks_mem (List.getElem_mem hl)
      have h4 := g.bulk_eq
      have hr : rd_Ge g.f3 i = g.f3[i.toNat] := by simp [rd_Ge, List.getD_eq_getElem?_getD, hl]
      rw [hr]
      omega
    have HAX := Aside0.mk hat2
    have i0 := hir.1
    have i1 := hir.2
    clear hW4 hgh hb4 PT4 HM4 HSZ3 hK3 p0 p1 p2 p3 m1 q1 m2 q2 m3 q3 hx hx' hgx hat2 hir q0 hk
    refine start_ (n := 22) (S := fun w' => w'.cell? ⟨gh, 3, none⟩ = some (.slice (some a4) g.f3.length e3) ∧ w'.cell? a2 = some (.int .i64 i) ∧ w'.cell? ⟨gg, 3, none⟩ = some (.slice (some a3) g.f3.length c3) ∧ w'.cell? (a3.add (i.toNat * 4)) = some (.int .i64 gx.f0) ∧ w'.cell? ⟨(a3.add (i.toNat * 4)).block, (a3.add (i.toNat * 4)).off + 1, none⟩ = some (.slice B1 gx.f1.length b1) ∧ w'.cell? ⟨(a3.add (i.toNat * 4)).block, (a3.add (i.toNat * 4)).off + 2, none⟩ = some (.slice B2 gx.f2.length b2) ∧ w'.cell? ⟨(a3.add (i.toNat * 4)).block, (a3.add (i.toNat * 4)).off + 3, none⟩ = some (.slice B3 gx.f3.length b3) ∧ w'.cell? ⟨gp, 0, none⟩ = some (.int .i64 p.f0) ∧ w'.cell? ⟨gp, 1, none⟩ = some (.slice D1 p.f1.length d1) ∧ w'.cell? ⟨gp, 2, none⟩ = some (.slice D2 p.f2.length d2) ∧ w'.cell? ⟨gp, 3, none⟩ = some (.slice D3 p.f3.length d3) ∧ True) (ds := [20]) #[false, false, false, false, false, false, false, false, false, false, false, false, false, false, false, false, false, false, false, false, false, false] hmx rfl rfl ⟨(blk_cell (w := W4.drew) KH5.out 3).trans rfl, cell_below (below_drew PT5.out.B) HX.out, (blk_cell (w := W4.drew) PT5.out.bg 3).trans rfl, cell_below (below_drew PT5.out.B) Q0.out, cell_below (below_drew PT5.out.B) Q1.out, cell_below (below_drew PT5.out.B) Q2.out, cell_below (below_drew PT5.out.B) Q3.out, (blk_cell (w := W4.drew) PT5.out.bp 0).trans rfl, (blk_cell (w := W4.drew) PT5.out.bp 1).trans rfl, (blk_cell (w := W4.drew) PT5.out.bp 2).trans rfl, (blk_cell (w := W4.drew) PT5.out.bp 3).trans rfl, trivial⟩ (fun hHeld => ?_)
    have PT6 := Aside0.mk (PT5.out.below (below_drew (Below.refl _ _)))
    have KH6 := Aside0.mk (blk_below KH5.out (below_drew (Below.refl _ _)))
    have HM6 := Aside0.mk ((kSp (M + 1)).M_move (w := W4) (w1 := W4.drew) (fun x _ => rfl) HM5.out)
    clear PT5 KH5 HM5
    generalize W4.drew = W5 at PT6 KH6 HM6 hHeld ⊢
    (refine pure_ (i := 0) (N := some 29) (v := ?_) (a' := ?_) #[true, false, false, false, false, false, false, false, false, false, false, false, false, false, false, false, false, false, false, false, false, false] rfl rfl (by kernel_rfl) (fun _ _ _ h => h) (Or.inl ⟨by rfl, ?_⟩) ?_ ?_; rotate_left; (focus (intro w'_; go_simp; with_reducible rfl)); rotate_left; (focus (simp only [Act.put, List.setIfInBounds_toArray, List.set_cons_zero, List.set_cons_succ]; rfl)))
    (refine pure_ (i := 2) (N := some 31) (v := ?_) (a' := ?_) #[true, false, true, false, false, false, false, false, false, false, false, false, false, false, false, false, false, false, false, false, false, false] rfl rfl (by kernel_rfl) (fun _ _ _ h => h) (Or.inl ⟨by rfl, ?_⟩) ?_ ?_; rotate_left; (focus (intro w'_; go_simp; with_reducible rfl)); rotate_left; (focus (simp only [Act.put, List.setIfInBounds_toArray, List.set_cons_zero, List.set_cons_succ]; rfl)))
    (refine pure_ (i := 5) (N := some 34) (v := ?_) (a' := ?_) #[true, false, true, false, false, true, false, false, false, false, false, false, false, false, false, false, false, false, false, false, false, false] rfl rfl (by kernel_rfl) (fun _ _ _ h => h) (Or.inl ⟨by rfl, ?_⟩) ?_ ?_; rotate_left; (focus (intro w'_; go_simp; with_reducible rfl)); rotate_left; (focus (simp only [Act.put, List.setIfInBounds_toArray, List.set_cons_zero, List.set_cons_succ]; rfl)))
    (refine pure_ (i := 7) (N := some 36) (v := ?_) (a' := ?_) #[true, false, true, false, false, true, false, true, false, false, false, false, false, false, false, false, false, false, false, false, false, false] rfl rfl (by kernel_rfl) (fun _ _ _ h => h) (Or.inl ⟨by rfl, ?_⟩) ?_ ?_; rotate_left; (focus (intro w'_; go_simp; with_reducible rfl)); rotate_left; (focus (simp only [Act.put, List.setIfInBounds_toArray, List.set_cons_zero, List.set_cons_succ]; rfl)))
    (refine pure_ (i := 12) (N := some 41) (v := ?_) (a' := ?_) #[true, false, true, false, false, true, false, true, false, false, false, false, true, false, false, false, false, false, false, false, false, false] rfl rfl (by kernel_rfl) (fun _ _ _ h => h) (Or.inl ⟨by rfl, ?_⟩) ?_ ?_; rotate_left; (focus (intro w'_; go_simp; with_reducible rfl)); rotate_left; (focus (simp only [Act.put, List.setIfInBounds_toArray, List.set_cons_zero, List.set_cons_succ]; rfl)))
    (refine pure_ (i := 3) (N := some 32) (v := ?_) (a' := ?_) #[true, false, true, true, false, true, false, true, false, false, false, false, true, false, false, false, false, false, false, false, false, false] rfl rfl (by kernel_rfl) (fun _ _ _ h => h) (Or.inl ⟨by rfl, ?_⟩) ?_ ?_; rotate_left; (focus (intro w'_; go_simp; with_reducible rfl)); rotate_left; (focus (simp only [Act.put, List.setIfInBounds_toArray, List.set_cons_zero, List.set_cons_succ]; rfl)))
    (refine pure_ (i := 8) (N := some 37) (v := ?_) (a' := ?_) #[true, false, true, true, false, true, false, true, true, false, false, false, true, false, false, false, false, false, false, false, false, false] rfl rfl (by kernel_rfl) (fun _ _ _ h => h) (Or.inl ⟨by rfl, ?_⟩) ?_ ?_; rotate_left; (focus (intro w'_; go_simp; with_reducible rfl)); rotate_left; (focus (simp only [Act.put, List.setIfInBounds_toArray, List.set_cons_zero, List.set_cons_succ]; rfl)))
    (refine take_ (i := 1) (N := some 30) (v := ?_) (a' := ?_) #[true, true, true, true, false, true, false, true, true, false, false, false, true, false, false, false, false, false, false, false, false, false] rfl rfl (by kernel_rfl) (fun _ _ _ h => h) (Or.inl ⟨by rfl, ?_⟩) hHeld ?_ ?_; rotate_left; (focus (intro w'_ hs_; (repeat obtain ⟨_, hs_⟩ := hs_); go_simp; with_reducible rfl)); rotate_left; (focus (simp only [Act.put, List.setIfInBounds_toArray, List.set_cons_zero, List.set_cons_succ]; rfl)))
    (refine take_ (i := 4) (N := some 33) (v := ?_) (a' := ?_) #[true, true, true, true, true, true, false, true, true, false, false, false, true, false, false, false, false, false, false, false, false, false] rfl rfl (by kernel_rfl) (fun _ _ _ h => h) (Or.inl ⟨by rfl, ?_⟩) hHeld ?_ ?_; rotate_left; (focus (intro w'_ hs_; (repeat obtain ⟨_, hs_⟩ := hs_); go_simp; with_reducible rfl)); rotate_left; (focus (simp only [Act.put, List.setIfInBounds_toArray, List.set_cons_zero, List.set_cons_succ]; rfl)))
    (refine take_ (i := 6) (N := some 35) (v := ?_) (a' := ?_) #[true, true, true, true, true, true, true, true, true, false, false, false, true, false, false, false, false, false, false, false, false, false] rfl rfl (by kernel_rfl) (fun _ _ _ h => h) (Or.inl ⟨by rfl, ?_⟩) hHeld ?_ ?_; rotate_left; (focus (intro w'_ hs_; (repeat obtain ⟨_, hs_⟩ := hs_); go_simp; with_reducible rfl)); rotate_left; (focus (simp only [Act.put, List.setIfInBounds_toArray, List.set_cons_zero, List.set_cons_succ]; rfl)))
    (refine take_ (i := 9) (N := some 38) (v := ?_) (a' := ?_) #[true, true, true, true, true, true, true, true, true, true, false, false, true, false, false, false, false, false, false, false, false, false] rfl rfl (by kernel_rfl) (fun _ _ _ h => h) (Or.inl ⟨by rfl, ?_⟩) hHeld ?_ ?_; rotate_left; (focus (intro w'_ hs_; (repeat obtain ⟨_, hs_⟩ := hs_); go_simp; with_reducible rfl)); rotate_left; (focus (simp only [Act.put, List.setIfInBounds_toArray, List.set_cons_zero, List.set_cons_succ]; rfl)))
    (refine pure_ (i := 10) (N := some 39) (v := ?_) (a' := ?_) #[true, true, true, true, true, true, true, true, true, true, true, false, true, false, false, false, false, false, false, false, false, false] rfl rfl (by kernel_rfl) (fun _ _ _ h => h) (Or.inl ⟨by rfl, ?_⟩) ?_ ?_; rotate_left; (focus (intro w'_; go_simp; with_reducible rfl)); rotate_left; (focus (simp only [Act.put, List.setIfInBounds_toArray, List.set_cons_zero, List.set_cons_succ]; rfl)))
    (refine take_ (i := 11) (N := some 40) (v := ?_) (a' := ?_) #[true, true, true, true, true, true, true, true, true, true, true, true, true, false, false, false, false, false, false, false, false, false] rfl rfl (by kernel_rfl) (fun _ _ _ h => h) (Or.inl ⟨by rfl, ?_⟩) hHeld ?_ ?_; rotate_left; (focus (intro w'_ hs_; (repeat obtain ⟨_, hs_⟩ := hs_); go_simp; with_reducible rfl)); rotate_left; (focus (simp only [Act.put, List.setIfInBounds_toArray, List.set_cons_zero, List.set_cons_succ]; rfl)))
    (refine take_ (i := 14) (N := some 43) (v := ?_) (a' := ?_) #[true, true, true, true, true, true, true, true, true, true, true, true, true, false, true, false, false, false, false, false, false, false] rfl rfl (by kernel_rfl) (fun _ _ _ h => h) (Or.inl ⟨by rfl, ?_⟩) hHeld ?_ ?_; rotate_left; (focus (intro w'_ hs_; (repeat obtain ⟨_, hs_⟩ := hs_); go_simp; with_reducible rfl)); rotate_left; (focus (simp only [Act.put, List.setIfInBounds_toArray, List.set_cons_zero, List.set_cons_succ]; rfl)))
    have hnc' : q.length + 1 ≤ c := hnc
    have hq1 : (1 : Int) ≤ (q.length : Int) + 1 := by omega
    (refine pure_ (i := 13) (N := some 42) (v := ?_) (a' := ?_) #[true, true, true, true, true, true, true, true, true, true, true, true, true, true, true, false, false, false, false, false, false, false] rfl rfl (by kernel_rfl) (fun _ _ _ h => h) (Or.inl ⟨by rfl, ?_⟩) ?_ ?_; rotate_left; (focus (intro w'_; go_simp; with_reducible rfl)); rotate_left; (focus (simp only [Act.put, List.setIfInBounds_toArray, List.set_cons_zero, List.set_cons_succ]; rfl)))
    obtain ⟨Aq, hAq⟩ : ∃ x, x = (if c = 1 then some a2 else some (⟨a2.block, a2.off + 1, none⟩ : Addr)) := ⟨_, rfl⟩
    rw [← hAq]
    have HPQ := Aside0.mk (show Kd.C (Kd.int .i64) w Aq q.length q by
      rw [hAq]
      have h := Kd.C_drop (m := 1) (c := c) HP.out (by simp) hnc
      have e1 : (Kd.int .i64).sz = 1 := rfl
      have e2 : a2.add 1 = ⟨a2.block, a2.off + 1, none⟩ := by simp [Addr.add]
      simpa [e1, e2] using h)
    clear hAq hq1
    refine one_ (i := 15) (N := some 44) #[true, true, true, true, true, true, true, true, true, true, true, true, true, true, true, true, false, false, false, false, false, false] rfl rfl (by kernel_rfl) (by decide) (fun K hK => ?_)
    refine goes_ Try.func14 (by kernel_rfl) rfl #[.agg #[.int .i64 gx.f0, .slice B1 gx.f1.length b1, .slice B2 gx.f2.length b2, .slice B3 gx.f3.length b3], .slice Aq q.length (c - 1), .agg #[.int .i64 p.f0, .slice D1 p.f1.length d1, .slice D2 p.f2.length d2, .slice D3 p.f3.length d3]] (by rfl) rfl rfl (by (try simp only [List.map_toArray, List.map_cons, List.map_nil]); first | done | rfl) ?_
    refine (IH.out M (.agg #[.int .i64 gx.f0, .slice B1 gx.f1.length b1, .slice B2 gx.f2.length b2, .slice B3 gx.f3.length b3]) (.agg #[.int .i64 p.f0, .slice D1 p.f1.length d1, .slice D2 p.f2.length d2, .slice D3 p.f3.length d3]) gx p Aq q.length (c - 1) W5 (HGX.out.below PT6.out.B) PT6.out.P hbx (by omega) rfl (by omega) (Kd.C_below HPQ.out PT6.out.B)).mono ?_
    rintro e W6 ⟨x2, k2, rfl, hres, hb6⟩
    have hfx : findR gx q = some k := by
      have h1 := HQ.out
      unfold findR at h1 ⊢
      split at h1
      · cases h1
      · rename_i hle
        rw [List.length_cons] at hle
        rw [if_neg (by omega)]
        exact HAX.out
    unfold RPutRes at hres
    rw [hfx] at hres
    obtain ⟨⟨cs, rfl, hM6⟩, rfl⟩ := hres
    obtain ⟨F1, f1, F2, f2, F3, f3, rfl, _⟩ := kGe_open (kSp_K _ ((kSp _).K_of_M hM6))
    have HSZ5 := Aside0.mk (show gh < W5.heap.size from blk_lt KH6.out)
    have PT7 := Aside0.mk (PT6.out.below hb6)
    have KH7 := Aside0.mk (blk_below KH6.out hb6)
    have HM7 := Aside0.mk ((kSp (M + 1)).M_move (w1 := W6) (fun x hx => hb6.block x (Nat.lt_trans hx.2 HSZ5.out)) HM6.out)
    have HP7 := Aside0.mk ((kSp M).M_lower PT6.out.B.size hM6 : (kSp M).M W6 w.heap.size (fun x => W5.heap.size ≤ x) (putG gx q p) [.int .i64 (putG gx q p).f0, .slice F1 (putG gx q p).f1.length f1, .slice F2 (putG gx q p).f2.length f2, .slice F3 (putG gx q p).f3.length f3])
    refine ⟨_, rfl, hK.out _ _ ⟨(blk_cell KH7.out 3).trans rfl, cell_below PT7.out.B HX.out, (blk_cell PT7.out.bg 3).trans rfl, cell_below PT7.out.B Q0.out, cell_below PT7.out.B Q1.out, cell_below PT7.out.B Q2.out, cell_below PT7.out.B Q3.out, (blk_cell PT7.out.bp 0).trans rfl, (blk_cell PT7.out.bp 1).trans rfl, (blk_cell PT7.out.bp 2).trans rfl, (blk_cell PT7.out.bp 3).trans rfl, trivial⟩ (fun hHeld2 => ?_)⟩
    clear hK K hHeld PT6 KH6 HM6 hfx hM6 hb6
    (refine norm_ (a' := ?_) ?_ ?_; rotate_left; focus (show Act.put _ (some 44) _ = _; simp only [Act.put, List.setIfInBounds_toArray, List.set_cons_zero, List.set_cons_succ]; rfl))
    (refine pure_ (i := 16) (N := some 28) (v := ?_) (a' := ?_) #[true, true, true, true, true, true, true, true, true, true, true, true, true, true, true, true, true, false, false, false, false, false] rfl rfl (by kernel_rfl) (fun _ _ _ h => h) (Or.inl ⟨by rfl, ?_⟩) ?_ ?_; rotate_left; (focus (intro w'_; go_simp; with_reducible rfl)); rotate_left; (focus (simp only [Act.put, List.setIfInBounds_toArray, List.set_cons_zero, List.set_cons_succ]; rfl)))
    (refine pure_ (i := 17) (N := some 45) (v := ?_) (a' := ?_) #[true, true, true, true, true, true, true, true, true, true, true, true, true, true, true, true, true, true, false, false, false, false] rfl rfl (by kernel_rfl) (fun _ _ _ h => h) (Or.inl ⟨by rfl, ?_⟩) ?_ ?_; rotate_left; (focus (intro w'_; go_simp; with_reducible rfl)); rotate_left; (focus (simp only [Act.put, List.setIfInBounds_toArray, List.set_cons_zero, List.set_cons_succ]; rfl)))
    (refine pure_ (i := 18) (N := some 46) (v := ?_) (a' := ?_) #[true, true, true, true, true, true, true, true, true, true, true, true, true, true, true, true, true, true, true, false, false, false] rfl rfl (by kernel_rfl) (fun _ _ _ h => h) (Or.inl ⟨by rfl, ?_⟩) ?_ ?_; rotate_left; (focus (intro w'_; go_simp; with_reducible rfl)); rotate_left; (focus (simp only [Act.put, List.setIfInBounds_toArray, List.set_cons_zero, List.set_cons_succ]; rfl)))
    (refine pure_ (i := 19) (N := some 47) (v := ?_) (a' := ?_) #[true, true, true, true, true, true, true, true, true, true, true, true, true, true, true, true, true, true, true, true, false, false] rfl rfl (by kernel_rfl) (fun _ _ _ h => h) (Or.inl ⟨by rfl, ?_⟩) ?_ ?_; rotate_left; (focus (intro w'_; go_simp; with_reducible rfl)); rotate_left; (focus (simp only [Act.put, List.setIfInBounds_toArray, List.set_cons_zero, List.set_cons_succ]; rfl)))
    obtain ⟨b, o, x0, x1, x2, x3, e0, hx, hfr, hend⟩ : ∃ (b o : Nat) (x0 x1 x2 x3 : Value), a4.add (i.toNat * 4) = ⟨b, o, none⟩ ∧ (∀ j y, [x0, x1, x2, x3][j]? = some y → W6.cell? ⟨b, o + j, none⟩ = some y) ∧ (∀ j, W6.frozen? ⟨b, o + j, none⟩ = false) ∧
        ((W6.setCells b o [.int .i64 (putG gx q p).f0, .slice F1 (putG gx q p).f1.length f1, .slice F2 (putG gx q p).f2.length f2, .slice F3 (putG gx q p).f3.length f3]).heap[gh]? = some (.cells #[.int .i64 g.f0, .slice E1 g.f1.length e1, .slice E2 g.f2.length e2, .slice (some a4) g.f3.length e3] 26 (0, 0)) ∧ (kSp (M + 1)).M (W6.setCells b o [.int .i64 (putG gx q p).f0, .slice F1 (putG gx q p).f1.length f1, .slice F2 (putG gx q p).f2.length f2, .slice F3 (putG gx q p).f3.length f3]) w.heap.size (fun x => W2.heap.size ≤ x ∧ x ≠ gh) (putG g (i :: q) p) [.int .i64 g.f0, .slice E1 g.f1.length e1, .slice E2 g.f2.length e2, .slice (some a4) g.f3.length e3] ∧ w.heap.size ≤ b ∧ b ≠ gr ∧ PtW w gg gp gr #[.int .i64 g.f0, .slice A1 g.f1.length c1, .slice A2 g.f2.length c2, .slice (some a3) g.f3.length c3] #[.int .i64 p.f0, .slice D1 p.f1.length d1, .slice D2 p.f2.length d2, .slice D3 p.f3.length d3] g p (W6.setCells b o [.int .i64 (putG gx q p).f0, .slice F1 (putG gx q p).f1.length f1, .slice F2 (putG gx q p).f2.length f2, .slice F3 (putG gx q p).f3.length f3])) := by
      have hord := HORD.out
      have hsz := HSZ5.out
      have hs2 := HSZ2.out
      have hs4 := HSZ4.out
      have hs0 := HSZ0.out
      have em : M + ([] : List Int).length + 1 = M + 1 := rfl
      obtain ⟨d1, d2, d3, d4, ⟨cc, d5, d6⟩, d7, d8⟩ := put_deep W6 w.heap.size (fun x => W5.heap.size ≤ x) (putG gx q p) gx [.int .i64 (putG gx q p).f0, .slice F1 (putG gx q p).f1.length f1, .slice F2 (putG gx q p).f2.length f2, .slice F3 (putG gx q p).f3.length f3] [] i g M gh 0 [.int .i64 g.f0, .slice E1 g.f1.length e1, .slice E2 g.f2.length e2, .slice (some a4) g.f3.length e3] (fun x => W2.heap.size ≤ x ∧ x < gh) (a4.add (i.toNat * 4)) HM7.out (fun j y hy => by
        have h := blk_cell KH7.out (0 + j)
        rw [h, Nat.zero_add]
        simpa using hy) (by rw [at_mk ⟨i0, i1⟩, HXE.out]; rfl) (.cons ((blk_cell KH7.out 3).trans rfl) i0 i1 (.nil _)) HP7.out (fun x hx hx' => by omega) (fun x hx => by omega)
      rw [em] at d7
      have hne : (a4.add (i.toNat * 4)).block ≠ gh := by omega
      obtain ⟨x0, x1, x2, x3, rfl⟩ := four_of d5
      refine ⟨_, _, x0, x1, x2, x3, d1, d6, d4, ?_, ?_, by omega, by omega, PT7.out.cells HV.out HU.out _ _ _ (by omega) (by omega) (by omega) (by omega)⟩
      · exact (setCells_far _ _ gh (Ne.symm hne)).trans KH7.out
      · have ep : putG g [i] (putG gx q p) = putG g (i :: q) p := by rw [putG_cons, putG_cons, putG_nil, HXE.out]
        rw [ep] at d7
        exact (kSp (M + 1)).M_mono (fun x hx => by
          rcases hx with hx | hx
          · exact ⟨hx.1, by omega⟩
          · exact ⟨by omega, by omega⟩) d7
    rw [e0]
    have HEND := Aside0.mk hend
    clear hend e0
    have hs0 : W6.cell? ⟨b, o, none⟩ = some x0 := hx 0 x0 rfl
    have hf0 : W6.frozen? ⟨b, o, none⟩ = false := hfr 0
    have hs1 : W6.cell? ⟨b, o + 1, none⟩ = some x1 := hx 1 x1 rfl
    have hf1 : W6.frozen? ⟨b, o + 1, none⟩ = false := hfr 1
    have hs2 : W6.cell? ⟨b, o + 2, none⟩ = some x2 := hx 2 x2 rfl
    have hf2 : W6.frozen? ⟨b, o + 2, none⟩ = false := hfr 2
    have hs3 : W6.cell? ⟨b, o + 3, none⟩ = some x3 := hx 3 x3 rfl
    have hf3 : W6.frozen? ⟨b, o + 3, none⟩ = false := hfr 3
    refine last_ (i := 20) (N := none) #[true, true, true, true, true, true, true, true, true, true, true, true, true, true, true, true, true, true, true, true, true, false] rfl rfl (by kernel_rfl) (by decide) (fun K hK => ?_)
    refine skip_ (w1 := ?_) (by rfl) rfl ?_ ?_
    rotate_left
    · go_simp
      rfl
    refine hK.out _ _ ?_
    clear hK K
    rw [cells4]
    obtain ⟨W7, hW7⟩ : ∃ x, x = W6.setCells b o [.int .i64 (putG gx q p).f0, .slice F1 (putG gx q p).f1.length f1, .slice F2 (putG gx q p).f2.length f2, .slice F3 (putG gx q p).f3.length f3] := ⟨_, rfl⟩
    obtain ⟨hr1, hr2, hr3, hr4, hr5⟩ := HEND.out
    rw [← hW7] at hr1 hr2 hr5 ⊢
    have PT8 := Aside0.mk hr5
    have KO8 := Aside0.mk hr1
    have HM8 := Aside0.mk hr2
    clear hr1 hr2 hr3 hr4 hr5 hW7 HEND hs0 hs1 hs2 hs3 hf0 hf1 hf2 hf3 hx hfr hHeld2 PT7 KH7 HM7 HP7
    (refine pure_ (i := 21) (N := some 9) (v := ?_) (a' := ?_) #[true, true, true, true, true, true, true, true, true, true, true, true, true, true, true, true, true, true, true, true, true, true] rfl rfl (by kernel_rfl) (fun _ _ _ h => h) (Or.inl ⟨by rfl, ?_⟩) ?_ ?_; rotate_left; (focus (intro w'_; go_simp; with_reducible rfl)); rotate_left; (focus (simp only [Act.put, List.setIfInBounds_toArray, List.set_cons_zero, List.set_cons_succ]; rfl)))
    refine done_ (by kernel_rfl) ?_
    have z0 : W7.cell? ⟨gh, 0, none⟩ = some (.int .i64 g.f0) := (blk_cell KO8.out 0).trans rfl
    have z1 : W7.cell? ⟨gh, 1, none⟩ = some (.slice E1 g.f1.length e1) := (blk_cell KO8.out 1).trans rfl
    have z2 : W7.cell? ⟨gh, 2, none⟩ = some (.slice E2 g.f2.length e2) := (blk_cell KO8.out 2).trans rfl
    have z3 : W7.cell? ⟨gh, 3, none⟩ = some (.slice (some a4) g.f3.length e3) := (blk_cell KO8.out 3).trans rfl
    have r0 : W7.cell? ⟨gr, 0, none⟩ = some (.int .i64 0) := (blk_cell PT8.out.r 0).trans rfl
    have t0 := blk_frozen PT8.out.r 0
    have r1 : W7.cell? ⟨gr, 1, none⟩ = some (.slice none 0 0) := (blk_cell PT8.out.r 1).trans rfl
    have t1 := blk_frozen PT8.out.r 1
    have r2 : W7.cell? ⟨gr, 2, none⟩ = some (.slice none 0 0) := (blk_cell PT8.out.r 2).trans rfl
    have t2 := blk_frozen PT8.out.r 2
    have r3 : W7.cell? ⟨gr, 3, none⟩ = some (.slice none 0 0) := (blk_cell PT8.out.r 3).trans rfl
    have t3 := blk_frozen PT8.out.r 3
    go_wp2_with fail
    have bk := (blk_set (blk_set (blk_set (blk_set PT8.out.r 0 (.int .i64 g.f0)) 1 (.slice E1 g.f1.length e1)) 2 (.slice E2 g.f2.length e2)) 3 (.slice (some a4) g.f3.length e3))
    refine bodyPost_ret (results_geom2 (a := 6) (c := 7) (by rfl) _ _ (by rfl) (by simpa using bk)) rfl ?_
    have hord := HORD.out
    have hgr : w.heap.size ≤ gr := by omega
    have hs2 := HSZ2.out
    refine ⟨_, _, rfl, ?_, ((((PT8.out.B.setCell (p := ⟨gr, 0, none⟩) hgr _).setCell (p := ⟨gr, 1, none⟩) hgr _).setCell (p := ⟨gr, 2, none⟩) hgr _).setCell (p := ⟨gr, 3, none⟩) hgr _)⟩
    unfold RPutRes
    rw [HQ.out]
    refine ⟨⟨[.int .i64 g.f0, .slice E1 g.f1.length e1, .slice E2 g.f2.length e2, .slice (some a4) g.f3.length e3], rfl, ?_⟩, rfl⟩
    exact (kSp (M + 1)).M_mono (fun x hx => by have := hx.1; omega) (Kd.M_far (p := ⟨gr, 3, none⟩) (Kd.M_far (p := ⟨gr, 2, none⟩) (Kd.M_far (p := ⟨gr, 1, none⟩) (Kd.M_far (p := ⟨gr, 0, none⟩) HM8.out (fun x h => by show x ≠ gr; omega) _) (fun x h => by show x ≠ gr; omega) _) (fun x h => by show x ≠ gr; omega) _) (fun x h => by show x ≠ gr; omega) _)
end Go.Proofs.Ytmcbniobbbjdjaa.Tree
