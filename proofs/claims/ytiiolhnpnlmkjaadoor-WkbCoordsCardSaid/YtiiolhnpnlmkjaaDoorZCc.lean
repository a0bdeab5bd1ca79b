/- Texts of this claim laid one behind the other (TTells; TWrap; PWkbPrintsx5): what each proves stands at its own names; the last one is the claim's. No conditions but those told. -/
import Derived.Test.YtiiolhnpnlmkjaaDoorZCb
namespace Go.Proofs.YtiiolhnpnlmkjaaDoor.Tree
open Go.RowKit Go.Proofs.YtiiolhnpnlmkjaaDoorW.PrintWords Go.Proofs.YtiiolhnpnlmkjaaDoorW.PrintLast Go.Proofs.YtiiolhnpnlmkjaaDoorW.PrintMore
set_option linter.unusedVariables false
set_option linter.unusedSimpArgs false
attribute [local go_sem] Oper.semAt_some max2_int max_two
theorem blk_set1 {w : World} {g : Nat} {t : TypeId} {v : Value} (h : w.heap[g]? = some (.cells #[v] t (0, 0))) (u : Value) : (w.setCell ⟨g, 0, none⟩ u).heap[g]? = some (.cells #[u] t (0, 0)) := by simpa using blk_set h 0 u
theorem heap_old {W : World} {k : Nat} {b : Obj} (h : W.heap[k]? = some b) (o : Obj) : (W.alloc o).heap[k]? = some b := (Below.heap_alloc W o k (blk_lt h)).trans h
theorem heap_at {W : World} {k : Nat} (h : W.heap.size = k) (o : Obj) : (W.alloc o).heap[k]? = some o := by subst h; exact World.alloc_heap_new _ _
end Go.Proofs.YtiiolhnpnlmkjaaDoor.Tree
namespace Go.Proofs.YtiiolhnpnlmkjaaDoor.Tree
open Go.RowKit Go.Proofs.YtiiolhnpnlmkjaaDoorW.PrintWords Go.Proofs.YtiiolhnpnlmkjaaDoorW.PrintLast Go.Proofs.YtiiolhnpnlmkjaaDoorW.PrintMore
set_option linter.unusedVariables false
set_option linter.unusedSimpArgs false
attribute [local go_sem] Oper.semAt_some max2_int max_two
/-- An error: nil, or a new api.Fault with its place and its number. -/
def ErrV (w : World) (v : Value) : Option (Int × Int) → Prop
  | none => v = .nilIface
  | some (a, c) => ∃ g : Nat, v = .iface 109 (.pointer (some ⟨g, 0, none⟩)) ∧ w.heap[g]? = some (.cells #[.int .i64 a, .iface 70 (.int .i64 c)] 113 (0, 0))
theorem ErrV.below {w w1 : World} {v : Value} {x : Option (Int × Int)} (h : ErrV w v x) (hb : Below w.heap.size w w1) : ErrV w1 v x := by
  rcases x with _ | ⟨a, c⟩
  · exact h
  · obtain ⟨g, e, h⟩ := h
    exact ⟨g, e, (hb.block g (Array.getElem?_eq_some_iff.1 h).1).trans h⟩
theorem wrap_calls (a c : Int) (w : World) :
    Calls Tryd.prog 56 #[.int .i64 a, .int .i64 c] w fun e w' => ∃ v, e = .returned v ∧ ErrV w' v (some (a, c)) ∧ Below w.heap.size w w' := by
  go_enter Tryd.func56, Tryd.ntmps56
  go_wp2_with fail
  go_ret
  refine ⟨_, rfl, ⟨_, rfl, ?_⟩, by repeat (first | exact Below.refl _ _ | apply below_alloc)⟩
  exact World.alloc_heap_new _ _
/-- What is wrong with a tree's geometries in the order of the text, so many geometries and points ahead of them. -/
def scanC (k n : Nat) : List It → Option (Int × Int)
  | [] => none
  | x :: l => if wrongC x ((n + 1 + (own x.f0).length : Nat) : Int) = 0 then scanC (k + 1) (n + 1 + (own x.f0).length) l else some ((k : Int), wrongC x ((n + 1 + (own x.f0).length : Nat) : Int))
theorem scanC_cons (k n : Nat) (x : It) (l : List It) : scanC k n (x :: l) = if wrongC x ((n + 1 + (own x.f0).length : Nat) : Int) = 0 then scanC (k + 1) (n + 1 + (own x.f0).length) l else some ((k : Int), wrongC x ((n + 1 + (own x.f0).length : Nat) : Int)) := rfl
theorem ptsOf_cons (x : It) (l : List It) : ptsOf (x :: l) = (own x.f0).length + ptsOf l := by
  have : ∀ (l : List It) (m : Nat), l.foldl (fun n x => n + (own x.f0).length) m = m + ptsOf l := by
    intro l
    induction l with
    | nil => intro m; rfl
    | cons y l ih =>
      intro m
      unfold ptsOf
      rw [List.foldl_cons, List.foldl_cons, ih, ih]; omega
  unfold ptsOf
  rw [List.foldl_cons, this, ptsOf]; omega
theorem scanC_append (p : List It) : ∀ (k n : Nat) (q : List It), scanC k n p = none → scanC k n (p ++ q) = scanC (k + p.length) (n + p.length + ptsOf p) q := by
  induction p with
  | nil => intro k n q _; rfl
  | cons x p ih =>
    intro k n q h
    rw [List.cons_append]
    rw [scanC_cons] at h ⊢
    split at h
    · rename_i c
      rw [if_pos c, ih _ _ _ h, ptsOf_cons, List.length_cons]
      rw [show k + 1 + p.length = k + (p.length + 1) by omega, show n + 1 + (own x.f0).length + p.length + ptsOf p = n + (p.length + 1) + ((own x.f0).length + ptsOf p) by omega]
    · cases h
theorem scanC_stop (p : List It) : ∀ (k n : Nat) (q : List It) (e : Int × Int), scanC k n p = some e → scanC k n (p ++ q) = some e := by
  induction p with
  | nil => intro k n q e h; cases h
  | cons x p ih =>
    intro k n q e h
    rw [List.cons_append]
    rw [scanC_cons] at h ⊢
    split at h
    · rename_i c
      rw [if_pos c]; exact ih _ _ _ _ h
    · rename_i c
      rw [if_neg c]; exact h
/-- A tree's flaw: the place, the number. -/
def checkR (g : Ge) : Option (Int × Int) := scanC 0 0 (nodes g 1 0)
theorem results_err {fn : Func} {a : Tmp} (h : fn.results = #[.cell a 32]) (tmps : Array Value) (w : World) {ad : Addr} {u : Value} (hp : tmps.getD a undef = .pointer (some ad)) (hc : w.cell? ad = some u) : (results fn tmps).run Tryd.prog w = .ok u w := by
  rw [Array.getD_eq_getD_getElem?] at hp
  simp [results, h, hp, hc, go_sem, asAddr]
theorem put_far {w : World} {k : Nat} {b : Obj} (h : w.heap[k]? = some b) {D : Nat} (hne : k ≠ D) (o : Obj) : (w.putObj D o).heap[k]? = some b := by
  simp [World.putObj, Array.getElem?_setIfInBounds, Ne.symm hne, h]
theorem below_set1 {w : World} {n g t : Nat} {cs : Array Value} (h : w.heap[g]? = some (.cells cs t (0, 0))) (hn : n ≤ g) (u : Value) : Below n w (w.setCell ⟨g, 0, none⟩ u) := (Below.refl n w).setCell hn u
theorem tot_eq (a b c : Nat) : (((0 + a + b + 1 + c : Nat)) : Int) = (a : Int) + (b : Int) + (1 + (c : Int)) := by omega
theorem tot_eq2 (a b c : Nat) : (((a + 1 : Nat)) : Int) + ((b + c : Nat) : Int) = (a : Int) + (b : Int) + (1 + (c : Int)) := by omega
theorem ErrV.far {w : World} {v u : Value} {x : Option (Int × Int)} (h : ErrV w v x) {b : Nat} {cs : Array Value} (hk : w.heap[b]? = some (.cells cs 32 (0, 0))) : ErrV (w.setCell ⟨b, 0, none⟩ u) v x := by
  rcases x with _ | ⟨a, c⟩
  · exact h
  · obtain ⟨g, e, h⟩ := h
    refine ⟨g, e, blk_far h (p := ⟨b, 0, none⟩) ?_ _⟩
    intro he
    have he' : g = b := he
    subst he'
    rw [hk] at h
    cases h
set_option maxRecDepth 100000 in
set_option maxHeartbeats 4000000 in
theorem check_calls (v : Value) (g : Ge) (w : World) (hv : IsG w v g) (hbk : g.bulk ≤ 1073741824) :
    Calls Tryd.prog 44 #[v] w fun e w' => ∃ u, e = .returned u ∧ ErrV w' u (checkR g) ∧ Below w.heap.size w w' := by
  have hv' := hv
  obtain ⟨A1, c1, A2, c2, A3, c3, rfl, _⟩ := hv'
  obtain ⟨w0, hw0⟩ : ∃ w0, w0 = w.alloc (.cells #[.int .i64 g.f0, .slice A1 g.f1.length c1, .slice A2 g.f2.length c2, .slice A3 g.f3.length c3] 28) := ⟨_, rfl⟩
  have hs0 : w0.heap.size = w.heap.size + 1 := by rw [hw0]; simp
  have hG : GAt w0 ⟨w.heap.size, 0, none⟩ g := by
    refine GAt.box (hv.below (w1 := w0) ?_) (b := w.heap.size) (cs := #[.int .i64 g.f0, .slice A1 g.f1.length c1, .slice A2 g.f2.length c2, .slice A3 g.f3.length c3]) ?_ rfl
    · rw [hw0]; exact below_alloc (Below.refl _ _) _
    · rw [hw0]; exact World.alloc_heap_new w _
  refine (callsIn_wide (n := 3)).1 ?_
  refine callsIn_of_wp_marks Tryd.func44 rfl trivial ?_ rfl
  simp only [Tryd.ntmps44, List.size_toArray, List.length_cons, List.length_nil, Nat.reduceAdd, Nat.reduceSub, Array.replicate_succ, Array.replicate_zero, List.push_toArray, List.append_toArray, List.nil_append, List.cons_append]
  gi_wp2_with fail
  refine ⟨trivial, ?_⟩
  refine (Free.plain.calls (all_calls _ _)).mono ?_
  rintro e w' ⟨rfl, rfl⟩
  gi_wp2_with fail
  refine range_all (w0.heap.size) w0 rfl g ⟨w.heap.size, 0, none⟩ hG hbk ?hw (w.heap.size + 4) ?hBt rfl rfl
    (fun x B => { tmps := #[Value.agg #[.int .i64 g.f0, .slice A1 g.f1.length c1, .slice A2 g.f2.length c2, .slice A3 g.f3.length c3], .pointer (some ⟨w.heap.size, 0, none⟩), .pointer (some ⟨w.heap.size + 1, 0, none⟩), .pointer (some ⟨w.heap.size + 2, 0, none⟩), .pointer (some ⟨w.heap.size + 3, 0, none⟩), .pointer (some ⟨B, 0, none⟩), undef, .func (.func 81) #[] #[.pointer (some ⟨w.heap.size + 4, 0, none⟩)], x.enc, undef, undef, undef, undef, undef, undef, undef, undef, undef, undef, undef, undef, undef, undef, undef, undef], defers := [] })
    ?hassign
    (fun pre W => W.heap[w.heap.size + 1]? = some (.cells #[.nilIface] 32 (0, 0)) ∧ W.heap[w.heap.size + 2]? = some (.cells #[.int .i64 pre.length] 3 (0, 0)) ∧ W.heap[w.heap.size + 3]? = some (.cells #[.int .i64 ((pre.length : Int) + (ptsOf pre : Int))] 3 (0, 0)) ∧ scanC 0 0 pre = none)
    (fun pre W => ∃ u x, W.heap[w.heap.size + 1]? = some (.cells #[u] 32 (0, 0)) ∧ scanC 0 0 pre = some x ∧ ErrV W u (some x)) ?hI ?hIx ?h0 ?hbody ?hdone ?hstop
  case hw => rw [hw0]; exact ((((Below.refl _ _).alloc (Nat.le_refl _) _).alloc (by simp) _).alloc (by simp) _).alloc (by simp) _
  case hBt => exact (blk_cell (heap_at (by simp) _) 0).trans rfl
  case hassign =>
    intro l x W K hK
    dsimp only [Spot.enc]
    gi_wp2
    exact hK
  case hI =>
    rintro s A B row ⟨h1, h2, h3, h4⟩ hg hr
    exact ⟨(grownBy_keeps_cells hg (fun r e => (hr r e).2) h1 rfl).trans h1, (grownBy_keeps_cells hg (fun r e => (hr r e).2) h2 rfl).trans h2, (grownBy_keeps_cells hg (fun r e => (hr r e).2) h3 rfl).trans h3, h4⟩
  case hIx =>
    rintro s A B row ⟨u, x, h1, h2, ⟨k, h3, h4⟩⟩ hg hr
    exact ⟨u, x, (grownBy_keeps_cells hg (fun r e => (hr r e).2) h1 rfl).trans h1, h2, k, h3, (grownBy_keeps_cells hg (fun r e => (hr r e).2) h4 rfl).trans h4⟩
  case h0 => exact ⟨heap_old (heap_old (heap_old (heap_at (by simp) _) _) _) _, heap_old (heap_old (heap_at (by simp) _) _) _, heap_old (heap_at (by simp) _) _, rfl⟩
  case hbody =>
    rintro l pre x Bx W hm hGx hb hn hB hbx ⟨hi1, hi2, hi3, hi4⟩ hlen
    have hmx : Tryd.prog.follows .mixedOrders = true := by kernel_rfl
    simp only [World.size_alloc] at hB
    have hp := ptsOf_le (pre ++ [x.it]) 1073741824 (fun y hy => by have := nodes_bulk (hm y hy); have := own_len y.f0; omega)
    have hl := nodes_len g 1 0
    have hp2 : (pre ++ [x.it]).length * 1073741824 ≤ 1073741824 * 1073741824 := Nat.mul_le_mul_right _ (by omega)
    rw [ptsOf_snoc] at hp
    rw [List.length_append, List.length_singleton] at hlen
    have hbx' := nodes_bulk (hm x.it (by simp))
    have b1 : pre.length + 1 ≤ 1073741824 := by omega
    have b2 : ptsOf pre + (own x.g).length ≤ 1152921504606846976 := by have : (own x.it.f0).length = (own x.g).length := rfl; omega
    have m3 : W.drew.cell? ⟨w.heap.size + 3, 0, none⟩ = some (.int .i64 ((pre.length : Int) + (ptsOf pre : Int))) := (blk_cell (w := W.drew) hi3 0).trans rfl
    have f3 : W.drew.frozen? ⟨w.heap.size + 3, 0, none⟩ = false := blk_frozen (w := W.drew) hi3 0
    have t0 : W.drew.cell? ⟨Bx, 0, none⟩ = some (.pointer (some x.ad)) := (blk_cell (w := W.drew) hbx 0).trans rfl
    have HO := Aside0.mk (own_calls x.g x.ad W.drew (hGx.below (hb.trans (below_drew (Below.refl _ _)))) (by exact Nat.le_trans hbx' hbk))
    obtain ⟨W2, hW2⟩ : ∃ W2, W2 = (W.setCell ⟨w.heap.size + 3, 0, none⟩ (.int .i64 ((pre.length : Int) + (ptsOf pre : Int) + (1 + ((own x.g).length : Int))))).drew := ⟨_, rfl⟩
    have k1 : W2.heap[w.heap.size + 1]? = some (.cells #[.nilIface] 32 (0, 0)) := by rw [hW2]; exact blk_far hi1 (p := ⟨w.heap.size + 3, 0, none⟩) (by simp) _
    have k2 : W2.heap[w.heap.size + 2]? = some (.cells #[.int .i64 pre.length] 3 (0, 0)) := by rw [hW2]; exact blk_far hi2 (p := ⟨w.heap.size + 3, 0, none⟩) (by simp) _
    have k3 : W2.heap[w.heap.size + 3]? = some (.cells #[.int .i64 ((pre.length : Int) + (ptsOf pre : Int) + (1 + ((own x.g).length : Int)))] 3 (0, 0)) := by rw [hW2]; exact blk_set1 hi3 _
    have kx : W2.heap[Bx]? = some (.cells #[.pointer (some x.ad), .int .i64 x.lvl, .int .i64 x.of_] 123 (0, 0)) := by rw [hW2]; exact blk_far hbx (p := ⟨w.heap.size + 3, 0, none⟩) (by show Bx ≠ w.heap.size + 3; omega) _
    have st2 : Step w0.heap.size (((((w.alloc (.cells #[.int .i64 g.f0, .slice A1 g.f1.length c1, .slice A2 g.f2.length c2, .slice A3 g.f3.length c3] 28)).alloc (.cells #[.nilIface] 32)).alloc (.cells #[.int .i64 0] 3)).alloc (.cells #[.int .i64 0] 3)).alloc (.cells #[.pointer (some ⟨w.heap.size, 0, none⟩)] 121)).heap.size W W2 := by
      rw [hW2]; exact ((Step.refl _ _ _).set hi3 (by decide) (by omega) _).drew
    have hn2 : w0.heap.size ≤ W2.heap.size := by rw [hW2]; simpa using hn
    have u0 : W2.cell? ⟨Bx, 0, none⟩ = some (.pointer (some x.ad)) := (blk_cell kx 0).trans rfl
    have u1 : W2.cell? ⟨Bx, 1, none⟩ = some (.int .i64 x.lvl) := (blk_cell kx 1).trans rfl
    have u2 : W2.cell? ⟨Bx, 2, none⟩ = some (.int .i64 x.of_) := (blk_cell kx 2).trans rfl
    have u3 : W2.cell? ⟨w.heap.size + 3, 0, none⟩ = some (.int .i64 ((pre.length : Int) + (ptsOf pre : Int) + (1 + ((own x.g).length : Int)))) := (blk_cell k3 0).trans rfl
    obtain ⟨c, hc⟩ : ∃ c, c = wrongC x.it ((pre.length : Int) + (ptsOf pre : Int) + (1 + ((own x.g).length : Int))) := ⟨_, rfl⟩
    have hwr := wrong_calls x.it ((pre.length : Int) + (ptsOf pre : Int) + (1 + ((own x.g).length : Int))) x.ad W2 (hGx.below (hb.trans st2.kp.below)) (by exact Nat.le_trans hbx' hbk)
    rw [← hc] at hwr
    have HWR := Aside0.mk hwr
    have HS := Aside0.mk (show scanC 0 0 (pre ++ [x.it]) = if c = 0 then none else some ((pre.length : Int), c) by
      rw [scanC_append pre 0 0 _ hi4, scanC_cons, show (((0 + pre.length + ptsOf pre + 1 + (own x.it.f0).length : Nat)) : Int) = (pre.length : Int) + (ptsOf pre : Int) + (1 + ((own x.g).length : Int)) from tot_eq _ _ _, ← hc]
      simp [scanC])
    have K1 := Aside0.mk k1
    have K2 := Aside0.mk k2
    have K3 := Aside0.mk k3
    have ST := Aside0.mk st2
    have HW2 := Aside0.mk hW2
    have HN2 := Aside0.mk (And.intro hn2 hs0)
    clear hi1 hi2 hi3 hi4 hm hGx hb hn hB hbx hlen hp hl hp2 hbx' k1 k2 k3 kx st2 hn2 hwr hc hW2 hs0
    gi_wp2_with fail
    refine Free.draws (.round l) hmx ?hq (by decide) ?_
    case hq => rintro ⟨_, _, h⟩; exact h
    refine any_still_tail 6 (by kernel_rfl) ?_
    simp only [List.take_succ_cons, List.take_zero, List.drop_succ_cons, List.drop_zero]
    repeat still_step
    still_call HO.out
    repeat still_step
    refine wpStill_nil ?_
    go_wp2_with fail
    rw [← HW2.out]
    gi_wp2_with fail
    refine ⟨trivial, ((Free.round l).calls HWR.out).mono ?_⟩
    rintro e W3 ⟨rfl, hb3⟩
    have ST3 := Aside0.mk (ST.out.below hb3 HN2.out.1)
    have k1 := (hb3.block _ (blk_lt K1.out)).trans K1.out
    have k2 := (hb3.block _ (blk_lt K2.out)).trans K2.out
    have k3 := (hb3.block _ (blk_lt K3.out)).trans K3.out
    have HN3 := Aside0.mk (And.intro (Nat.le_trans HN2.out.1 hb3.size) HN2.out.2)
    have m2 : W3.cell? ⟨w.heap.size + 2, 0, none⟩ = some (.int .i64 pre.length) := (blk_cell k2 0).trans rfl
    clear K1 K2 K3 ST HN2 hb3
    by_cases hc : c = 0
    · subst hc
      have f2 := blk_frozen k2 0
      have K1 := Aside0.mk k1
      have K2 := Aside0.mk k2
      have K3 := Aside0.mk k3
      clear k1 k2 k3
      gi_wp2_with fail
      refine ⟨ST3.out.set K2.out (by decide) (by have := HN3.out; omega) _, ?_⟩
      show _ ∧ _ ∧ _ ∧ _
      rw [List.length_append, List.length_singleton, ptsOf_snoc]
      refine ⟨blk_far K1.out (p := ⟨w.heap.size + 2, 0, none⟩) (by simp) _, blk_set1 K2.out _, ?_, ?_⟩
      · rw [tot_eq2]
        exact blk_far K3.out (p := ⟨w.heap.size + 2, 0, none⟩) (by simp) _
      · rw [HS.out]; simp
    · have q0 : (c == 0) = false := beq_eq_false_iff_ne.mpr hc
      have HC0 := Aside0.mk hc
      have K1 := Aside0.mk k1
      clear k1 k2 k3 hc
      gi_wp2_with fail
      refine ⟨trivial, ((Free.round l).calls (wrap_calls _ _ W3)).mono ?_⟩
      rintro e W4 ⟨u, rfl, ⟨gk, rfl, hu⟩, hb4⟩
      have k1 := (hb4.block _ (blk_lt K1.out)).trans K1.out
      have f1 := blk_frozen k1 0
      have m1 : W4.cell? ⟨w.heap.size + 1, 0, none⟩ = some .nilIface := (blk_cell k1 0).trans rfl
      have ST4 := Aside0.mk (ST3.out.below hb4 HN3.out.1)
      have HU := Aside0.mk hu
      have K4 := Aside0.mk k1
      clear hu k1 hb4 K1
      gi_wp2_with fail
      refine ⟨ST4.out.set K4.out (by decide) (by have := HN3.out; omega) _, _, ((pre.length : Int), c), blk_set1 K4.out _, ?_, ErrV.far (x := some ((pre.length : Int), c)) ⟨gk, rfl, HU.out⟩ K4.out⟩
      rw [HS.out, if_neg HC0.out]
  case hdone =>
    rintro D W hD ⟨hi1, hi2, hi3, hi4⟩ hb hK
    simp only [World.size_alloc] at hD
    have f1 := blk_frozen hi1 0
    have m1 : W.cell? ⟨w.heap.size + 1, 0, none⟩ = some .nilIface := (blk_cell hi1 0).trans rfl
    have K1 := Aside0.mk hi1
    dsimp only [behind]
    clear hi1 hi2 hi3
    gi_wp2_with fail
    have hK2 : (W.setCell ⟨w.heap.size + 1, 0, none⟩ .nilIface).heap[D]? = some (.deferred (some [])) := (Below.heap_setCell _ _ _ _ (by show D ≠ w.heap.size + 1; omega)).trans hK
    refine ⟨by simp, .inl ⟨_, _, rfl, run_takeDeferred hK2, ?_⟩⟩
    have hb0 : Below w.heap.size w w0 := by rw [hw0]; exact below_alloc (Below.refl _ _) _
    have hne : w.heap.size + 1 ≠ D := by omega
    have hc0 : ((W.setCell ⟨w.heap.size + 1, 0, none⟩ .nilIface).putObj D (.deferred none)).cell? ⟨w.heap.size + 1, 0, none⟩ = some .nilIface := (blk_cell (put_far (blk_set1 K1.out _) hne _) 0).trans rfl
    refine ⟨_, results_err rfl _ _ rfl hc0, _, rfl, ?_, ?_⟩
    · unfold checkR; rw [hi4]; rfl
    · have h1 := (hb0.trans (hb.mono (by omega))).trans (below_set1 (w := W) K1.out (by omega) .nilIface)
      exact h1.grown (grownBy_putObj' _ _ _) (by simp; have := hb.size; omega) (fun k e => by cases e; omega)
  case hstop =>
    rintro D p W hD ⟨q, hp⟩ ⟨u, x, hi1, hi2, hi3⟩ hb hK
    simp only [World.size_alloc] at hD
    dsimp only [behind]
    gi_wp2_with fail
    refine ⟨by simp, .inl ⟨_, _, rfl, run_takeDeferred hK, ?_⟩⟩
    have hb0 : Below w.heap.size w w0 := by rw [hw0]; exact below_alloc (Below.refl _ _) _
    have hne : w.heap.size + 1 ≠ D := by omega
    have hc0 : (W.putObj D (.deferred none)).cell? ⟨w.heap.size + 1, 0, none⟩ = some u := (blk_cell (put_far hi1 hne _) 0).trans rfl
    refine ⟨_, results_err rfl _ _ rfl hc0, _, rfl, ?_, ?_⟩
    · unfold checkR; rw [← hp, scanC_stop _ _ _ _ _ hi2]
      obtain ⟨g, e, h⟩ := hi3
      refine ⟨g, e, put_far h (fun he => ?_) _⟩
      subst he
      rw [hK] at h; cases h
    · exact (hb0.trans (hb.mono (by omega))).grown (grownBy_putObj' _ _ _) (by have := hb.size; omega) (fun k e => by cases e; omega)
end Go.Proofs.YtiiolhnpnlmkjaaDoor.Tree
namespace Go.Proofs.YtiiolhnpnlmkjaaDoor.PWkbPrints
open Go.RowKit Go.Proofs.YtiiolhnpnlmkjaaDoorW.PrintWords Go.Proofs.YtiiolhnpnlmkjaaDoorW.PrintLast Go.Proofs.YtiiolhnpnlmkjaaDoorW.PrintMore
attribute [local go_sem] max2_int min2_int max_two min_two max_three min_three max_four min_four   -- for this text's walks alone
set_option linter.unusedVariables false
set_option linter.unusedSimpArgs false

/-- A state of type 103 at block g of W; what its slices lead to came in by w0. -/
def IsS103 (w0 W : World) (g : Nat) (f0 : List Int) (f1 : List Bool) (f2 : Int) : Prop := ∃ A0 c0, ∃ A1 c1, W.heap[g]? = some (.cells #[.slice A0 f0.length c0, .slice A1 f1.length c1, .int .i64 f2] 103 (0, 0)) ∧ w0.heap.size ≤ g ∧ Kd.C (Kd.int .u8) w0 A0 f0.length f0 ∧ Kd.C Kd.bool w0 A1 f1.length f1
theorem IsS103.grown {w0 W : World} {g : Nat} {f0 : List Int} {f1 : List Bool} {f2 : Int} {W1 : World} {row : Option Nat} (h : IsS103 w0 W g f0 f1 f2) (hw : W.grownBy W1 row) (hne : some g ≠ row) : IsS103 w0 W1 g f0 f1 f2 := by
  obtain ⟨A0, c0, A1, c1, hb, hg, hr0, hr1⟩ := h
  exact ⟨A0, c0, A1, c1, blk_grown hb hw hne, hg, hr0, hr1⟩
theorem IsS103.below {w0 W : World} {g : Nat} {f0 : List Int} {f1 : List Bool} {f2 : Int} {W1 : World} (h : IsS103 w0 W g f0 f1 f2) (hw : Below W.heap.size W W1) : IsS103 w0 W1 g f0 f1 f2 := h.grown (grown_of_below hw none) (by simp)
theorem IsS103.alloc {w0 W : World} {g : Nat} {f0 : List Int} {f1 : List Bool} {f2 : Int} (h : IsS103 w0 W g f0 f1 f2) (o : Obj) : IsS103 w0 (W.alloc o) g f0 f1 f2 := h.below (below_alloc (Below.refl _ _) o)
theorem IsS103.drewN {w0 W : World} {g : Nat} {f0 : List Int} {f1 : List Bool} {f2 : Int} (h : IsS103 w0 W g f0 f1 f2) (m : Nat) : IsS103 w0 (W.drewN m) g f0 f1 f2 := h
theorem IsS103.drew {w0 W : World} {g : Nat} {f0 : List Int} {f1 : List Bool} {f2 : Int} (h : IsS103 w0 W g f0 f1 f2) : IsS103 w0 W.drew g f0 f1 f2 := h
theorem IsS103.at_ {w0 W : World} {g : Nat} {f0 : List Int} {f1 : List Bool} {f2 : Int} {w' : World} {m : Nat} (hq : W.drewN m = w') (h : IsS103 w0 W g f0 f1 f2) : IsS103 w0 w' g f0 f1 f2 := by subst hq; exact IsS103.drewN h m
theorem IsS103.apart {w0 W : World} {g : Nat} {f0 : List Int} {f1 : List Bool} {f2 : Int} {α : Type} {d : Kd α} {e : Nat} {base : Nat} {ok : Nat → Prop} {v : Value} {xs : List α} (h : IsS103 w0 W g f0 f1 f2) (ho : d.R e W base ok v xs) (ht : ∀ q, q ∈ e :: d.E → q ≠ 103) : d.R e W base (fun k => ok k ∧ k ≠ g) v xs := by
  obtain ⟨A0, c0, A1, c1, hb, hg, hr0, hr1⟩ := h
  exact Kd.R_types ho hb ht
theorem IsS103.ge {w0 W : World} {g : Nat} {f0 : List Int} {f1 : List Bool} {f2 : Int} (h : IsS103 w0 W g f0 f1 f2) : w0.heap.size ≤ g := by
  obtain ⟨A0, c0, A1, c1, hb, hg, hr0, hr1⟩ := h
  exact hg
theorem IsS103.far {w0 W : World} {g : Nat} {f0 : List Int} {f1 : List Bool} {f2 : Int} {p : Addr} (h : IsS103 w0 W g f0 f1 f2) (hne : g ≠ p.block) (u : Value) : IsS103 w0 (W.setCell p u) g f0 f1 f2 := by
  obtain ⟨A0, c0, A1, c1, hb, hg, hr0, hr1⟩ := h
  exact ⟨A0, c0, A1, c1, blk_far hb hne u, hg, hr0, hr1⟩
theorem cellS103_0 {W : World} {g : Nat} {A0 : Option Addr} {c0 : Nat} {A1 : Option Addr} {c1 : Nat} {f0 : List Int} {f1 : List Bool} {f2 : Int} (h : W.heap[g]? = some (.cells #[.slice A0 f0.length c0, .slice A1 f1.length c1, .int .i64 f2] 103 (0, 0))) : W.cell? ⟨g, 0, none⟩ = some (.slice A0 f0.length c0) := (blk_cell h 0).trans rfl
theorem cellS103_1 {W : World} {g : Nat} {A0 : Option Addr} {c0 : Nat} {A1 : Option Addr} {c1 : Nat} {f0 : List Int} {f1 : List Bool} {f2 : Int} (h : W.heap[g]? = some (.cells #[.slice A0 f0.length c0, .slice A1 f1.length c1, .int .i64 f2] 103 (0, 0))) : W.cell? ⟨g, 1, none⟩ = some (.slice A1 f1.length c1) := (blk_cell h 1).trans rfl
theorem cellS103_2 {W : World} {g : Nat} {A0 : Option Addr} {c0 : Nat} {A1 : Option Addr} {c1 : Nat} {f0 : List Int} {f1 : List Bool} {f2 : Int} (h : W.heap[g]? = some (.cells #[.slice A0 f0.length c0, .slice A1 f1.length c1, .int .i64 f2] 103 (0, 0))) : W.cell? ⟨g, 2, none⟩ = some (.int .i64 f2) := (blk_cell h 2).trans rfl
theorem IsS103.set_2 {w0 W : World} {g : Nat} {f0 : List Int} {f1 : List Bool} {f2 : Int} (h : IsS103 w0 W g f0 f1 f2) (x : Int) : IsS103 w0 (W.setCell ⟨g, 2, none⟩ (.int .i64 x)) g f0 f1 x := by
  obtain ⟨A0, c0, A1, c1, hb, hg, hr0, hr1⟩ := h
  exact ⟨A0, c0, A1, c1, by simpa using blk_set hb 2 (.int .i64 x), hg, hr0, hr1⟩
theorem IsS103.new (w0 W : World) (A0 : Option Addr) (c0 : Nat) (A1 : Option Addr) (c1 : Nat) (f0 : List Int) (f1 : List Bool) (f2 : Int) (hB : Below w0.heap.size w0 W) (hr0 : Kd.C (Kd.int .u8) w0 A0 f0.length f0) (hr1 : Kd.C Kd.bool w0 A1 f1.length f1) : IsS103 w0 (W.alloc (.cells #[.slice A0 f0.length c0, .slice A1 f1.length c1, .int .i64 f2] 103)) W.heap.size f0 f1 f2 := ⟨A0, c0, A1, c1, by simpa using heap_alloc_new W _, hB.size, hr0, hr1⟩

/-! ### wkb_printer_order: function 72 -/
def wkb_printer_order.f (s0_0 : List Int) (s0_1 : List Bool) (s0_2 : Int) : Option (Bool × Int) := if (s0_1.length : Int) = 0 then (some (false, wrap64 (s0_2 + 1))) else (if 0 ≤ (mn s0_2 (wrap64 ((s0_1.length : Int) - 1))) then (if (mn s0_2 (wrap64 ((s0_1.length : Int) - 1))) < (s0_1.length : Int) then (some (rdOf false s0_1 (mn s0_2 (wrap64 ((s0_1.length : Int) - 1))), wrap64 (s0_2 + 1))) else (none)) else (none))
set_option maxHeartbeats 8000000 in
set_option maxRecDepth 100000 in
theorem wkb_printer_order.calls (g : Nat) (s0_0 : List Int) (s0_1 : List Bool) (s0_2 : Int) (r1 : Bool) (r2 : Int) (w0 w : World) (hI : IsS103 w0 w g s0_0 s0_1 s0_2) (hB : Below w0.heap.size w0 w) (h : wkb_printer_order.f s0_0 s0_1 s0_2 = some (r1, r2)) :
    Calls Tryd.prog 72 #[.pointer (some ⟨g, 0, none⟩)] w fun e w' => e = .returned (.bool r1) ∧ IsS103 w0 w' g s0_0 s0_1 r2 ∧ Below w0.heap.size w0 w' ∧ KeepBut w w' g none := by
  have HI0 := Aside0.mk hI
  have HK := Aside0.mk (KeepBut.refl w g none)
  have HL := Aside0.mk hB.size
  clear hI
  have HW0 := Aside0.mk hB.size
  have HB := Aside0.mk hB
  clear hB
  have H : (if (s0_1.length : Int) = 0 then (some (false, wrap64 (s0_2 + 1))) else (if 0 ≤ (mn s0_2 (wrap64 ((s0_1.length : Int) - 1))) then (if (mn s0_2 (wrap64 ((s0_1.length : Int) - 1))) < (s0_1.length : Int) then (some (rdOf false s0_1 (mn s0_2 (wrap64 ((s0_1.length : Int) - 1))), wrap64 (s0_2 + 1))) else (none)) else (none))) = some (r1, r2) := h
  clear h
  by_cases c2 : (s0_1.length : Int) = 0
  · rw [if_pos c2] at H
    have c2b0 : ((s0_1.length : Int) == 0) = true := beq_iff_eq.mpr c2
    have c2b1 : ((s0_1.length : Int) != 0) = false := bne_eq_false_iff_eq.mpr c2
    clear c2
    simp only [Option.some.injEq, Prod.mk.injEq] at H
    obtain ⟨rfl, rfl⟩ := H
    obtain ⟨ASz3_0, cSz3_0, ASz3_1, cSz3_1, HGz3, hgz3, HSz3_0, HSz3_1⟩ := HI0.out
    have hcz3_0 := cellS103_0 HGz3
    have hcz3_1 := cellS103_1 HGz3
    have hcz3_2 := cellS103_2 HGz3
    have hfz3_2 := blk_frozen HGz3 2
    clear HGz3 hgz3
    go_enter Tryd.func72, Tryd.ntmps72
    go_wp2
    repeat (go_quiet (fail); try go_wp2)
    go_ret
    exact ⟨by first | rfl | (simp [errW_none, errW_some] <;> rfl) | (simp [*, errW_none, errW_some] <;> rfl), by repeat (first | (with_reducible first | exact HI0.out | apply IsS103.alloc | apply IsS103.drewN | apply IsS103.drew | apply IsS103.set_2) | exact HI0.out), by repeat (first | (with_reducible first | exact HB.out | apply below_alloc | apply pw_below_drewN | apply below_drew1 | refine below_set ?_ (IsS103.ge HI0.out)) | exact HB.out), by repeat (first | (with_reducible first | exact HK.out | apply KeepBut.set_ | apply keep_drewN | apply keep_drew | apply keep_alloc) | exact HK.out)⟩
  · rw [if_neg c2] at H
    have c2b0 : ((s0_1.length : Int) == 0) = false := beq_eq_false_iff_ne.mpr c2
    have c2b1 : ((s0_1.length : Int) != 0) = true := bne_iff_ne.mpr c2
    have c2b2 : ¬ (s0_1 = []) := fun h_ => c2 (by rw [h_]; rfl)
    obtain ⟨ji4, hji4⟩ : ∃ j_ : Int, (mn s0_2 (wrap64 ((s0_1.length : Int) - 1))) = j_ := ⟨_, rfl⟩
    replace H : (if 0 ≤ (ji4) then (if (ji4) < (s0_1.length : Int) then (some (rdOf false s0_1 (ji4), wrap64 (s0_2 + 1))) else (none)) else (none)) = some (r1, r2) := by first | (rw [hji4] at H; exact H) | (simp only [hji4] at H ⊢; exact H)
    have hji4_ : (if (wrap64 ((s0_1.length : Int) - 1)) < s0_2 then (wrap64 ((s0_1.length : Int) - 1)) else s0_2) = ji4 := hji4
    by_cases c5 : 0 ≤ (ji4)
    · rw [if_pos c5] at H
      have c5b0 : decide (0 ≤ (ji4)) = true := decide_eq_true c5
      clear c5
      by_cases c6 : (ji4) < (s0_1.length : Int)
      · rw [if_pos c6] at H
        have c6b0 : decide ((ji4) < (s0_1.length : Int)) = true := decide_eq_true c6
        clear c6
        simp only [Option.some.injEq, Prod.mk.injEq] at H
        obtain ⟨rfl, rfl⟩ := H
        obtain ⟨ASz7_0, cSz7_0, ASz7_1, cSz7_1, HGz7, hgz7, HSz7_0, HSz7_1⟩ := HI0.out
        have hcz7_0 := cellS103_0 HGz7
        have hcz7_1 := cellS103_1 HGz7
        have hcz7_2 := cellS103_2 HGz7
        have hfz7_2 := blk_frozen HGz7 2
        clear HGz7 hgz7
        have p152 : 0 ≤ ((ji4) : Int) := of_decide_eq_true (by first | (with_reducible assumption) | assumption)
        have q152 : (ji4) < (s0_1.length : Int) := of_decide_eq_true (by first | (with_reducible assumption) | assumption)
        obtain ⟨ad152, e152, hx152_0⟩ := Kd.at_bool HSz7_1 (ji4) p152 q152
        cases e152
        have hn152_0 : ad152.block ≠ g := Nat.ne_of_lt (Nat.lt_of_lt_of_le (by have := World.block_lt_of_cell? _ _ hx152_0; first | rwa [add_block] at this | exact this) (IsS103.ge HI0.out))
        replace hx152_0 := pw_cell_below HB.out hx152_0
        replace hx152_0 := (cell_far (p := ⟨g, 2, none⟩) (by first | (rw [add_block]; exact hn152_0) | (show (Addr.add _ _).block ≠ _; rw [add_block]; exact hn152_0) | exact hn152_0) (.int .i64 (wrap64 (s0_2 + 1)))).trans hx152_0
        (try have hy152_0 := fun (n_ : Nat) => (show (((w.drewN n_).setCell ⟨g, 2, none⟩ (.int .i64 (wrap64 (s0_2 + 1))))).cell? _ = some _ from hx152_0))
        clear hn152_0
        replace p152 := eq_true p152
        replace q152 := eq_true q152
        go_enter Tryd.func72, Tryd.ntmps72
        go_wp2
        repeat (go_quiet (fail); try go_wp2)
        go_ret
        exact ⟨by first | rfl | (simp [errW_none, errW_some] <;> rfl) | (simp only [← hji4]; first | rfl | (simp [errW_none, errW_some] <;> rfl)) | (simp [*, errW_none, errW_some] <;> rfl), by repeat (first | (with_reducible first | exact HI0.out | apply IsS103.alloc | apply IsS103.drewN | apply IsS103.drew | apply IsS103.set_2) | exact HI0.out), by repeat (first | (with_reducible first | exact HB.out | apply below_alloc | apply pw_below_drewN | apply below_drew1 | refine below_set ?_ (IsS103.ge HI0.out)) | exact HB.out), by repeat (first | (with_reducible first | exact HK.out | apply KeepBut.set_ | apply keep_drewN | apply keep_drew | apply keep_alloc) | exact HK.out)⟩
      · rw [if_neg c6] at H
        exact absurd H (by simp)
    · rw [if_neg c5] at H
      exact absurd H (by simp)

/-! ### octet_put_uint32: function 51, by hand -/
def octet_put_uint32.out (l : List Int) (v : Int) (le : Bool) : List Int := if le = true then l ++ [v % 256, v / 256 % 256, v / 65536 % 256, v / 16777216 % 256] else l ++ [v / 16777216 % 256, v / 65536 % 256, v / 256 % 256, v % 256]
def octet_put_uint32.f (l0 : List Int) (a1 : Int) (a2 : Int) (a3 : Bool) : Option (List Int) := if a2 = 4 ∧ l0.length ≤ 140737488355316 then some (octet_put_uint32.out l0 a1 a3) else none
theorem octet_put_uint32.sets (l zs : List Int) (L : Int) (hL : (l.length : Int) = L) (hz : zs.length = l.length + 4) (x0 x1 x2 x3 : Int) : (((((l.take zs.length ++ zs.drop l.length).set L.toNat x0).set (L + 1).toNat x1).set (L + 2).toNat x2).set (L + 3).toNat x3) = l ++ [x0, x1, x2, x3] := by
  subst hL
  have hd : (zs.drop l.length).length = 4 := by rw [List.length_drop]; omega
  obtain ⟨ws, hw⟩ : ∃ ws, zs.drop l.length = ws := ⟨_, rfl⟩
  rw [hw] at hd ⊢
  rw [List.take_of_length_le (by omega)]
  obtain ⟨y0, y1, y2, y3, rfl⟩ : ∃ y0 y1 y2 y3, ws = [y0, y1, y2, y3] := by
    match ws, hd with
    | [y0, y1, y2, y3], _ => exact ⟨y0, y1, y2, y3, rfl⟩
  rw [show ((l.length : Int)).toNat = l.length + 0 from by omega, List.set_append_right _ _ (by omega), Nat.add_sub_cancel_left]
  rw [show ((l.length : Int) + 1).toNat = l.length + 1 from by omega, List.set_append_right _ _ (by omega), Nat.add_sub_cancel_left]
  rw [show ((l.length : Int) + 2).toNat = l.length + 2 from by omega, List.set_append_right _ _ (by omega), Nat.add_sub_cancel_left]
  rw [show ((l.length : Int) + 3).toNat = l.length + 3 from by omega, List.set_append_right _ _ (by omega), Nat.add_sub_cancel_left]
  rfl
def octet_put_uint32_stop (p : Prop) : Prop := p
theorem octet_put_uint32_put_stop {p : Prop} (h : octet_put_uint32_stop p) : p := h
set_option maxHeartbeats 4000000 in
set_option maxRecDepth 100000 in
theorem octet_put_uint32.any (A0 : Option Addr) (c0 : Nat) (l : List Int) (v : Int) (le : Bool) (w : World) (hr0 : Kd.C (Kd.int .u8) w A0 l.length l) (hc0 : l.length ≤ c0) (hl : l.length ≤ 140737488355316) :
    Calls Tryd.prog 51 #[.slice A0 l.length c0, .int .u32 v, .int .i64 4, .bool le] w fun e w' => ∃ v0_ : Value, e = .returned (v0_) ∧ Kd.R (Kd.int .u8) 5 w' w.heap.size (fun _ => True) v0_ (octet_put_uint32.out l v le) ∧ Below w.heap.size w w' := by
  have HR0 := Aside0.mk hr0
  have HC0 := Aside0.mk hc0
  have HL := Aside0.mk hl
  have hn : wrap64 ((l.length : Int) + 4) = (l.length : Int) + 4 := by unfold wrap64; omega
  have HN := Aside0.mk hn
  clear hr0 hc0 hl hn
  go_enter Tryd.func51, Tryd.ntmps51
  go_wp2_with (first
    | ((with_reducible refine gate_dst (N := 17) rfl ?_); refine Kd.R_make (Kd.int .u8) (w0 := w) w.heap.size 5 rfl (N := 17) rfl 22 _ _ rfl (wrap64 ((l.length : Int) + 4)) rfl rfl Tryd.underlying22 (.int .u8 0) 1 info5 rfl (by decide) (by omega) 0 (ok := fun _ => True) (okp := fun _ => False) rfl (fun _ h => h.elim) True.intro (by have := HN.out; omega) ?aL (Below.refl _ _) (Nat.le_refl _) ?_; (case aL => have := HL.out; have := HN.out; omega)
       intro v1 w1 ho hb hg hat
       obtain ⟨zs, hzs, hzl⟩ : ∃ zs, List.replicate (wrap64 ((l.length : Int) + 4)).toNat (0 : Int) = zs ∧ zs.length = l.length + 4 := ⟨_, rfl, by rw [List.length_replicate, HN.out]; omega⟩
       rw [hzs] at ho
       obtain ⟨g, cap, rfl⟩ := Go.Proofs.YtiiolhnpnlmkjaaDoor.Math.R_shape ho hat
       have HO := Aside0.mk ho
       have HB := Aside0.mk hb
       have HZ := Aside0.mk hzs
       have HZL := Aside0.mk hzl
       clear ho hb hg hat hzs hzl)
    | ((with_reducible refine gate_builtin (b := .copy) (xs := #[.tmp 18, .tmp 19]) rfl ?_); refine Go.Proofs.YtiiolhnpnlmkjaaDoor.Math.R_copy (w0 := w) (base := w.heap.size) 0 rfl (.tmp 18) (.tmp 19) 22 rfl Tryd.underlying22 (e := 5) ?sz zs l A0 l.length c0 rfl rfl HO.out (Kd.C_below HR0.out HB.out) HB.out ?_; (case sz => kernel_rfl)
       intro w2 ho hb hg
       rw [show min l.length zs.length = l.length from by rw [HZL.out]; omega]
       have HP := Aside0.mk ho
       have HB2 := Aside0.mk hb
       clear ho hb hg))
  have hb0 := HL.out
  have hzl := HZL.out
  obtain ⟨ys, hys⟩ : ∃ ys, l.take zs.length ++ zs.drop l.length = ys := ⟨_, rfl⟩
  have HY := Aside0.mk hys
  have hp := HP.out
  rw [hys, hzl] at hp
  clear HP HO HB HZ hys
  have HP0 := Aside0.mk hp
  clear hp
  obtain ⟨L, hL⟩ : ∃ L : Int, (l.length : Int) = L := ⟨_, rfl⟩
  have q0 : wrap64 (L + 0) = L := by unfold wrap64; omega
  have q1 : wrap64 (L + 1) = L + 1 := by unfold wrap64; omega
  have q2 : wrap64 (L + 2) = L + 2 := by unfold wrap64; omega
  have q3 : wrap64 (L + 3) = L + 3 := by unfold wrap64; omega
  cases le
  · refine wp_loop_rounds 5 ?_
    rw [rounds_succ]
    obtain ⟨hy, hz⟩ := Kd.R_celln (0 : Int) HP0.out L (by omega) (by omega)
    have HQ := Aside0.mk (Kd.R_putg HP0.out L (v / 16777216 % 256))
    have HC := Aside0.mk (below_set (v := .int .u8 (v / 16777216 % 256)) (j := L.toNat) HB2.out (Kd.R_base HP0.out g rfl))
    go_wp2_with ((with_reducible refine gate_store (t := 5) (p := 42) rfl ?_); refine octet_put_uint32_put_stop ?_)
    unfold octet_put_uint32_stop
    refine store_event (t := 5) (p := 42) (v := .tmp 41) (w1 := w2.setCell ⟨g, L.toNat, none⟩ (.int .u8 (v / 16777216 % 256))) rfl rfl rfl (by first | (go_simp; done) | (go_simp; rfl)) ?_
    intro w3 hw
    have hq := HQ.out.1; rw [← hw] at hq; have HP1 := Aside0.mk hq; have hc := HC.out; rw [← hw] at hc; have HB3 := Aside0.mk hc; clear hq hc hw hy hz HQ HC HP0 HB2
    go_wp2_with fail
    rw [rounds_succ]
    obtain ⟨hy, hz⟩ := Kd.R_celln (0 : Int) HP1.out (L + 1) (by omega) (by omega)
    have HQ := Aside0.mk (Kd.R_putg HP1.out (L + 1) (v / 65536 % 256))
    have HC := Aside0.mk (below_set (v := .int .u8 (v / 65536 % 256)) (j := (L + 1).toNat) HB3.out (Kd.R_base HP1.out g rfl))
    go_wp2_with ((with_reducible refine gate_store (t := 5) (p := 42) rfl ?_); refine octet_put_uint32_put_stop ?_)
    unfold octet_put_uint32_stop
    refine store_event (t := 5) (p := 42) (v := .tmp 41) (w1 := w3.setCell ⟨g, (L + 1).toNat, none⟩ (.int .u8 (v / 65536 % 256))) rfl rfl rfl (by first | (go_simp; done) | (go_simp; rfl)) ?_
    intro w4 hw
    have hq := HQ.out.1; rw [← hw] at hq; have HP2 := Aside0.mk hq; have hc := HC.out; rw [← hw] at hc; have HB4 := Aside0.mk hc; clear hq hc hw hy hz HQ HC HP1 HB3
    go_wp2_with fail
    rw [rounds_succ]
    obtain ⟨hy, hz⟩ := Kd.R_celln (0 : Int) HP2.out (L + 2) (by omega) (by omega)
    have HQ := Aside0.mk (Kd.R_putg HP2.out (L + 2) (v / 256 % 256))
    have HC := Aside0.mk (below_set (v := .int .u8 (v / 256 % 256)) (j := (L + 2).toNat) HB4.out (Kd.R_base HP2.out g rfl))
    go_wp2_with ((with_reducible refine gate_store (t := 5) (p := 42) rfl ?_); refine octet_put_uint32_put_stop ?_)
    unfold octet_put_uint32_stop
    refine store_event (t := 5) (p := 42) (v := .tmp 41) (w1 := w4.setCell ⟨g, (L + 2).toNat, none⟩ (.int .u8 (v / 256 % 256))) rfl rfl rfl (by first | (go_simp; done) | (go_simp; rfl)) ?_
    intro w5 hw
    have hq := HQ.out.1; rw [← hw] at hq; have HP3 := Aside0.mk hq; have hc := HC.out; rw [← hw] at hc; have HB5 := Aside0.mk hc; clear hq hc hw hy hz HQ HC HP2 HB4
    go_wp2_with fail
    rw [rounds_succ]
    obtain ⟨hy, hz⟩ := Kd.R_celln (0 : Int) HP3.out (L + 3) (by omega) (by omega)
    have HQ := Aside0.mk (Kd.R_putg HP3.out (L + 3) (v % 256))
    have HC := Aside0.mk (below_set (v := .int .u8 (v % 256)) (j := (L + 3).toNat) HB5.out (Kd.R_base HP3.out g rfl))
    go_wp2_with ((with_reducible refine gate_store (t := 5) (p := 42) rfl ?_); refine octet_put_uint32_put_stop ?_)
    unfold octet_put_uint32_stop
    refine store_event (t := 5) (p := 42) (v := .tmp 41) (w1 := w5.setCell ⟨g, (L + 3).toNat, none⟩ (.int .u8 (v % 256))) rfl rfl rfl (by first | (go_simp; done) | (go_simp; rfl)) ?_
    intro w6 hw
    have hq := HQ.out.1; rw [← hw] at hq; have HP4 := Aside0.mk hq; have hc := HC.out; rw [← hw] at hc; have HB6 := Aside0.mk hc; clear hq hc hw hy hz HQ HC HP3 HB5
    go_wp2_with fail
    rw [rounds_succ]
    go_wp2_with fail
    go_ret
    refine ⟨_, rfl, ?_, HB6.out⟩
    have e := HP4.out
    rw [← HY.out, octet_put_uint32.sets l zs L hL hzl, ← hzl] at e
    exact e
  · refine wp_loop_rounds 5 ?_
    rw [rounds_succ]
    obtain ⟨hy, hz⟩ := Kd.R_celln (0 : Int) HP0.out L (by omega) (by omega)
    have HQ := Aside0.mk (Kd.R_putg HP0.out L (v % 256))
    have HC := Aside0.mk (below_set (v := .int .u8 (v % 256)) (j := L.toNat) HB2.out (Kd.R_base HP0.out g rfl))
    go_wp2_with ((with_reducible refine gate_store (t := 5) (p := 42) rfl ?_); refine octet_put_uint32_put_stop ?_)
    unfold octet_put_uint32_stop
    refine store_event (t := 5) (p := 42) (v := .tmp 41) (w1 := w2.setCell ⟨g, L.toNat, none⟩ (.int .u8 (v % 256))) rfl rfl rfl (by first | (go_simp; done) | (go_simp; rfl)) ?_
    intro w3 hw
    have hq := HQ.out.1; rw [← hw] at hq; have HP1 := Aside0.mk hq; have hc := HC.out; rw [← hw] at hc; have HB3 := Aside0.mk hc; clear hq hc hw hy hz HQ HC HP0 HB2
    go_wp2_with fail
    rw [rounds_succ]
    obtain ⟨hy, hz⟩ := Kd.R_celln (0 : Int) HP1.out (L + 1) (by omega) (by omega)
    have HQ := Aside0.mk (Kd.R_putg HP1.out (L + 1) (v / 256 % 256))
    have HC := Aside0.mk (below_set (v := .int .u8 (v / 256 % 256)) (j := (L + 1).toNat) HB3.out (Kd.R_base HP1.out g rfl))
    go_wp2_with ((with_reducible refine gate_store (t := 5) (p := 42) rfl ?_); refine octet_put_uint32_put_stop ?_)
    unfold octet_put_uint32_stop
    refine store_event (t := 5) (p := 42) (v := .tmp 41) (w1 := w3.setCell ⟨g, (L + 1).toNat, none⟩ (.int .u8 (v / 256 % 256))) rfl rfl rfl (by first | (go_simp; done) | (go_simp; rfl)) ?_
    intro w4 hw
    have hq := HQ.out.1; rw [← hw] at hq; have HP2 := Aside0.mk hq; have hc := HC.out; rw [← hw] at hc; have HB4 := Aside0.mk hc; clear hq hc hw hy hz HQ HC HP1 HB3
    go_wp2_with fail
    rw [rounds_succ]
    obtain ⟨hy, hz⟩ := Kd.R_celln (0 : Int) HP2.out (L + 2) (by omega) (by omega)
    have HQ := Aside0.mk (Kd.R_putg HP2.out (L + 2) (v / 65536 % 256))
    have HC := Aside0.mk (below_set (v := .int .u8 (v / 65536 % 256)) (j := (L + 2).toNat) HB4.out (Kd.R_base HP2.out g rfl))
    go_wp2_with ((with_reducible refine gate_store (t := 5) (p := 42) rfl ?_); refine octet_put_uint32_put_stop ?_)
    unfold octet_put_uint32_stop
    refine store_event (t := 5) (p := 42) (v := .tmp 41) (w1 := w4.setCell ⟨g, (L + 2).toNat, none⟩ (.int .u8 (v / 65536 % 256))) rfl rfl rfl (by first | (go_simp; done) | (go_simp; rfl)) ?_
    intro w5 hw
    have hq := HQ.out.1; rw [← hw] at hq; have HP3 := Aside0.mk hq; have hc := HC.out; rw [← hw] at hc; have HB5 := Aside0.mk hc; clear hq hc hw hy hz HQ HC HP2 HB4
    go_wp2_with fail
    rw [rounds_succ]
    obtain ⟨hy, hz⟩ := Kd.R_celln (0 : Int) HP3.out (L + 3) (by omega) (by omega)
    have HQ := Aside0.mk (Kd.R_putg HP3.out (L + 3) (v / 16777216 % 256))
    have HC := Aside0.mk (below_set (v := .int .u8 (v / 16777216 % 256)) (j := (L + 3).toNat) HB5.out (Kd.R_base HP3.out g rfl))
    go_wp2_with ((with_reducible refine gate_store (t := 5) (p := 42) rfl ?_); refine octet_put_uint32_put_stop ?_)
    unfold octet_put_uint32_stop
    refine store_event (t := 5) (p := 42) (v := .tmp 41) (w1 := w5.setCell ⟨g, (L + 3).toNat, none⟩ (.int .u8 (v / 16777216 % 256))) rfl rfl rfl (by first | (go_simp; done) | (go_simp; rfl)) ?_
    intro w6 hw
    have hq := HQ.out.1; rw [← hw] at hq; have HP4 := Aside0.mk hq; have hc := HC.out; rw [← hw] at hc; have HB6 := Aside0.mk hc; clear hq hc hw hy hz HQ HC HP3 HB5
    go_wp2_with fail
    rw [rounds_succ]
    go_wp2_with fail
    go_ret
    refine ⟨_, rfl, ?_, HB6.out⟩
    have e := HP4.out
    rw [← HY.out, octet_put_uint32.sets l zs L hL hzl, ← hzl] at e
    exact e
theorem octet_put_uint32.calls (A0 : Option Addr) (c0 : Nat) (l0 : List Int) (a1 : Int) (a2 : Int) (a3 : Bool) (r : List Int) (w : World) (hr0 : Kd.C (Kd.int .u8) w A0 l0.length l0) (hc0 : l0.length ≤ c0) (h : octet_put_uint32.f l0 a1 a2 a3 = some r) :
    Calls Tryd.prog 51 #[.slice A0 l0.length c0, .int .u32 a1, .int .i64 a2, .bool a3] w fun e w' => ∃ v0_ : Value, e = .returned (v0_) ∧ Kd.R (Kd.int .u8) 5 w' w.heap.size (fun _ => True) v0_ r ∧ Below w.heap.size w w' := by
  unfold octet_put_uint32.f at h
  by_cases c : a2 = 4 ∧ l0.length ≤ 140737488355316
  · rw [if_pos c] at h
    obtain rfl := Option.some.inj h
    obtain ⟨rfl, hl⟩ := c
    exact octet_put_uint32.any A0 c0 l0 a1 a3 w hr0 hc0 hl
  · rw [if_neg c] at h
    exact absurd h (by simp)

/-! ### octet_Put32: function 35 -/
def octet_Put32.f (l0 : List Int) (a1 : Int) (a2 : Bool) : Option (List Int) := (octet_put_uint32.f l0 a1 4 a2).bind fun t153 => (some t153)
set_option maxHeartbeats 8000000 in
set_option maxRecDepth 100000 in
theorem octet_Put32.calls (A0 : Option Addr) (c0 : Nat) (l0 : List Int) (a1 : Int) (a2 : Bool) (r : List Int) (w : World) (hr0 : Kd.C (Kd.int .u8) w A0 l0.length l0) (hc0 : l0.length ≤ c0) (h : octet_Put32.f l0 a1 a2 = some r) :
    Calls Tryd.prog 35 #[.slice A0 l0.length c0, .int .u32 a1, .bool a2] w fun e w' => ∃ v0_ : Value, e = .returned (v0_) ∧ Kd.R (Kd.int .u8) 5 w' w.heap.size (fun _ => True) v0_ r ∧ Below w.heap.size w w' := by
  have HR0 := Aside0.mk hr0
  have HC0 := Aside0.mk hc0
  clear hr0 hc0
  have HB := Aside0.mk (Below.refl w.heap.size w)
  have H : ((octet_put_uint32.f l0 a1 4 a2).bind fun t153 => (some t153)) = some r := h
  clear h
  replace H := Option.bind_eq_some_iff.mp H
  obtain ⟨t153, A40, H⟩ := H
  replace H : (some t153) = some r := H
  have A4 := Aside0.mk A40
  clear A40
  obtain rfl := Option.some.inj H
  go_enter Tryd.func35, Tryd.ntmps35
  go_wp2_with (first | ((with_reducible refine gate_callee (f := 51) rfl ?_); refine goesL_ (some 10) rfl rfl Tryd.func51 (by kernel_rfl) rfl #[.slice A0 l0.length c0, .int .u32 a1, .int .i64 4, .bool a2] rfl (by (try simp only [List.map_toArray, List.map_cons, List.map_nil]); first | done | rfl | (simp only [List.length_drop, List.length_take]; rfl)) ?_; (with_reducible refine (octet_put_uint32.calls _ _ l0 a1 4 a2 t153 _ ?side1 ?side2 A4.out).mono ?_); (case side1 => repeat (first | exact HR0.out | (with_reducible refine Kd.C_alloc ?_ _) | (with_reducible refine Kd.C_drewN ?_ _) | (with_reducible refine Kd.C_drew ?_))); (case side2 => exact HC0.out); rintro e w5 ⟨v154, rfl, ho0, hb⟩; refine ⟨_, rfl, ?_⟩; have n0_ := Aside0.mk (Kd.R_lower ho0 (below_size (by repeat (first | (with_reducible first | exact HB.out | apply below_alloc | apply pw_below_drewN | apply below_drew1) | exact HB.out)))); have n1_ := Aside0.mk (below_step (by repeat (first | (with_reducible first | exact HB.out | apply below_alloc | apply pw_below_drewN | apply below_drew1) | exact HB.out)) hb); clear HB; have HO155 := n0_; have HB := n1_; clear n0_ n1_; (try clear hb); (try clear hb2); (try clear hk); (try clear hi); (try clear ho0)))
  go_ret
  exact ⟨_, by first | rfl | (simp [errW_none, errW_some] <;> rfl) | (simp [*, errW_none, errW_some] <;> rfl), by (with_reducible repeat (first | apply Kd.R_alloc | apply Kd.R_drewN | apply Kd.R_drew)); exact HO155.out, by repeat (first | (with_reducible first | exact HB.out | apply below_alloc | apply pw_below_drewN | apply below_drew1) | exact HB.out)⟩

-- NOT PRINTED: function 73 (wkb_printer_word)

/-! ### octet_put_uint64: function 52, by hand -/
def octet_put_uint64.out (l : List Int) (v : Int) (le : Bool) : List Int := if le = true then l ++ [v % 256, v / 256 % 256, v / 65536 % 256, v / 16777216 % 256, v / 4294967296 % 256, v / 1099511627776 % 256, v / 281474976710656 % 256, v / 72057594037927936 % 256] else l ++ [v / 72057594037927936 % 256, v / 281474976710656 % 256, v / 1099511627776 % 256, v / 4294967296 % 256, v / 16777216 % 256, v / 65536 % 256, v / 256 % 256, v % 256]
def octet_put_uint64.f (l0 : List Int) (a1 : Int) (a2 : Int) (a3 : Bool) : Option (List Int) := if a2 = 8 ∧ l0.length ≤ 140737488355312 then some (octet_put_uint64.out l0 a1 a3) else none
theorem octet_put_uint64.sets (l zs : List Int) (L : Int) (hL : (l.length : Int) = L) (hz : zs.length = l.length + 8) (x0 x1 x2 x3 x4 x5 x6 x7 : Int) : (((((((((l.take zs.length ++ zs.drop l.length).set L.toNat x0).set (L + 1).toNat x1).set (L + 2).toNat x2).set (L + 3).toNat x3).set (L + 4).toNat x4).set (L + 5).toNat x5).set (L + 6).toNat x6).set (L + 7).toNat x7) = l ++ [x0, x1, x2, x3, x4, x5, x6, x7] := by
  subst hL
  have hd : (zs.drop l.length).length = 8 := by rw [List.length_drop]; omega
  obtain ⟨ws, hw⟩ : ∃ ws, zs.drop l.length = ws := ⟨_, rfl⟩
  rw [hw] at hd ⊢
  rw [List.take_of_length_le (by omega)]
  obtain ⟨y0, y1, y2, y3, y4, y5, y6, y7, rfl⟩ : ∃ y0 y1 y2 y3 y4 y5 y6 y7, ws = [y0, y1, y2, y3, y4, y5, y6, y7] := by
    match ws, hd with
    | [y0, y1, y2, y3, y4, y5, y6, y7], _ => exact ⟨y0, y1, y2, y3, y4, y5, y6, y7, rfl⟩
  rw [show ((l.length : Int)).toNat = l.length + 0 from by omega, List.set_append_right _ _ (by omega), Nat.add_sub_cancel_left]
  rw [show ((l.length : Int) + 1).toNat = l.length + 1 from by omega, List.set_append_right _ _ (by omega), Nat.add_sub_cancel_left]
  rw [show ((l.length : Int) + 2).toNat = l.length + 2 from by omega, List.set_append_right _ _ (by omega), Nat.add_sub_cancel_left]
  rw [show ((l.length : Int) + 3).toNat = l.length + 3 from by omega, List.set_append_right _ _ (by omega), Nat.add_sub_cancel_left]
  rw [show ((l.length : Int) + 4).toNat = l.length + 4 from by omega, List.set_append_right _ _ (by omega), Nat.add_sub_cancel_left]
  rw [show ((l.length : Int) + 5).toNat = l.length + 5 from by omega, List.set_append_right _ _ (by omega), Nat.add_sub_cancel_left]
  rw [show ((l.length : Int) + 6).toNat = l.length + 6 from by omega, List.set_append_right _ _ (by omega), Nat.add_sub_cancel_left]
  rw [show ((l.length : Int) + 7).toNat = l.length + 7 from by omega, List.set_append_right _ _ (by omega), Nat.add_sub_cancel_left]
  rfl
def octet_put_uint64_stop (p : Prop) : Prop := p
theorem octet_put_uint64_put_stop {p : Prop} (h : octet_put_uint64_stop p) : p := h
set_option maxHeartbeats 4000000 in
set_option maxRecDepth 100000 in
theorem octet_put_uint64.any (A0 : Option Addr) (c0 : Nat) (l : List Int) (v : Int) (le : Bool) (w : World) (hr0 : Kd.C (Kd.int .u8) w A0 l.length l) (hc0 : l.length ≤ c0) (hl : l.length ≤ 140737488355312) :
    Calls Tryd.prog 52 #[.slice A0 l.length c0, .int .u64 v, .int .i64 8, .bool le] w fun e w' => ∃ v0_ : Value, e = .returned (v0_) ∧ Kd.R (Kd.int .u8) 5 w' w.heap.size (fun _ => True) v0_ (octet_put_uint64.out l v le) ∧ Below w.heap.size w w' := by
  have HR0 := Aside0.mk hr0
  have HC0 := Aside0.mk hc0
  have HL := Aside0.mk hl
  have hn : wrap64 ((l.length : Int) + 8) = (l.length : Int) + 8 := by unfold wrap64; omega
  have HN := Aside0.mk hn
  clear hr0 hc0 hl hn
  go_enter Tryd.func52, Tryd.ntmps52
  go_wp2_with (first
    | ((with_reducible refine gate_dst (N := 17) rfl ?_); refine Kd.R_make (Kd.int .u8) (w0 := w) w.heap.size 5 rfl (N := 17) rfl 22 _ _ rfl (wrap64 ((l.length : Int) + 8)) rfl rfl Tryd.underlying22 (.int .u8 0) 1 info5 rfl (by decide) (by omega) 0 (ok := fun _ => True) (okp := fun _ => False) rfl (fun _ h => h.elim) True.intro (by have := HN.out; omega) ?aL (Below.refl _ _) (Nat.le_refl _) ?_; (case aL => have := HL.out; have := HN.out; omega)
       intro v1 w1 ho hb hg hat
       obtain ⟨zs, hzs, hzl⟩ : ∃ zs, List.replicate (wrap64 ((l.length : Int) + 8)).toNat (0 : Int) = zs ∧ zs.length = l.length + 8 := ⟨_, rfl, by rw [List.length_replicate, HN.out]; omega⟩
       rw [hzs] at ho
       obtain ⟨g, cap, rfl⟩ := Go.Proofs.YtiiolhnpnlmkjaaDoor.Math.R_shape ho hat
       have HO := Aside0.mk ho
       have HB := Aside0.mk hb
       have HZ := Aside0.mk hzs
       have HZL := Aside0.mk hzl
       clear ho hb hg hat hzs hzl)
    | ((with_reducible refine gate_builtin (b := .copy) (xs := #[.tmp 18, .tmp 19]) rfl ?_); refine Go.Proofs.YtiiolhnpnlmkjaaDoor.Math.R_copy (w0 := w) (base := w.heap.size) 0 rfl (.tmp 18) (.tmp 19) 22 rfl Tryd.underlying22 (e := 5) ?sz zs l A0 l.length c0 rfl rfl HO.out (Kd.C_below HR0.out HB.out) HB.out ?_; (case sz => kernel_rfl)
       intro w2 ho hb hg
       rw [show min l.length zs.length = l.length from by rw [HZL.out]; omega]
       have HP := Aside0.mk ho
       have HB2 := Aside0.mk hb
       clear ho hb hg))
  have hb0 := HL.out
  have hzl := HZL.out
  obtain ⟨ys, hys⟩ : ∃ ys, l.take zs.length ++ zs.drop l.length = ys := ⟨_, rfl⟩
  have HY := Aside0.mk hys
  have hp := HP.out
  rw [hys, hzl] at hp
  clear HP HO HB HZ hys
  have HP0 := Aside0.mk hp
  clear hp
  obtain ⟨L, hL⟩ : ∃ L : Int, (l.length : Int) = L := ⟨_, rfl⟩
  have q0 : wrap64 (L + 0) = L := by unfold wrap64; omega
  have q1 : wrap64 (L + 1) = L + 1 := by unfold wrap64; omega
  have q2 : wrap64 (L + 2) = L + 2 := by unfold wrap64; omega
  have q3 : wrap64 (L + 3) = L + 3 := by unfold wrap64; omega
  have q4 : wrap64 (L + 4) = L + 4 := by unfold wrap64; omega
  have q5 : wrap64 (L + 5) = L + 5 := by unfold wrap64; omega
  have q6 : wrap64 (L + 6) = L + 6 := by unfold wrap64; omega
  have q7 : wrap64 (L + 7) = L + 7 := by unfold wrap64; omega
  cases le
  · refine wp_loop_rounds 9 ?_
    rw [rounds_succ]
    obtain ⟨hy, hz⟩ := Kd.R_celln (0 : Int) HP0.out L (by omega) (by omega)
    have HQ := Aside0.mk (Kd.R_putg HP0.out L (v / 72057594037927936 % 256))
    have HC := Aside0.mk (below_set (v := .int .u8 (v / 72057594037927936 % 256)) (j := L.toNat) HB2.out (Kd.R_base HP0.out g rfl))
    go_wp2_with ((with_reducible refine gate_store (t := 5) (p := 42) rfl ?_); refine octet_put_uint64_put_stop ?_)
    unfold octet_put_uint64_stop
    refine store_event (t := 5) (p := 42) (v := .tmp 41) (w1 := w2.setCell ⟨g, L.toNat, none⟩ (.int .u8 (v / 72057594037927936 % 256))) rfl rfl rfl (by first | (go_simp; done) | (go_simp; rfl)) ?_
    intro w3 hw
    have hq := HQ.out.1; rw [← hw] at hq; have HP1 := Aside0.mk hq; have hc := HC.out; rw [← hw] at hc; have HB3 := Aside0.mk hc; clear hq hc hw hy hz HQ HC HP0 HB2
    go_wp2_with fail
    rw [rounds_succ]
    obtain ⟨hy, hz⟩ := Kd.R_celln (0 : Int) HP1.out (L + 1) (by omega) (by omega)
    have HQ := Aside0.mk (Kd.R_putg HP1.out (L + 1) (v / 281474976710656 % 256))
    have HC := Aside0.mk (below_set (v := .int .u8 (v / 281474976710656 % 256)) (j := (L + 1).toNat) HB3.out (Kd.R_base HP1.out g rfl))
    go_wp2_with ((with_reducible refine gate_store (t := 5) (p := 42) rfl ?_); refine octet_put_uint64_put_stop ?_)
    unfold octet_put_uint64_stop
    refine store_event (t := 5) (p := 42) (v := .tmp 41) (w1 := w3.setCell ⟨g, (L + 1).toNat, none⟩ (.int .u8 (v / 281474976710656 % 256))) rfl rfl rfl (by first | (go_simp; done) | (go_simp; rfl)) ?_
    intro w4 hw
    have hq := HQ.out.1; rw [← hw] at hq; have HP2 := Aside0.mk hq; have hc := HC.out; rw [← hw] at hc; have HB4 := Aside0.mk hc; clear hq hc hw hy hz HQ HC HP1 HB3
    go_wp2_with fail
    rw [rounds_succ]
    obtain ⟨hy, hz⟩ := Kd.R_celln (0 : Int) HP2.out (L + 2) (by omega) (by omega)
    have HQ := Aside0.mk (Kd.R_putg HP2.out (L + 2) (v / 1099511627776 % 256))
    have HC := Aside0.mk (below_set (v := .int .u8 (v / 1099511627776 % 256)) (j := (L + 2).toNat) HB4.out (Kd.R_base HP2.out g rfl))
    go_wp2_with ((with_reducible refine gate_store (t := 5) (p := 42) rfl ?_); refine octet_put_uint64_put_stop ?_)
    unfold octet_put_uint64_stop
    refine store_event (t := 5) (p := 42) (v := .tmp 41) (w1 := w4.setCell ⟨g, (L + 2).toNat, none⟩ (.int .u8 (v / 1099511627776 % 256))) rfl rfl rfl (by first | (go_simp; done) | (go_simp; rfl)) ?_
    intro w5 hw
    have hq := HQ.out.1; rw [← hw] at hq; have HP3 := Aside0.mk hq; have hc := HC.out; rw [← hw] at hc; have HB5 := Aside0.mk hc; clear hq hc hw hy hz HQ HC HP2 HB4
    go_wp2_with fail
    rw [rounds_succ]
    obtain ⟨hy, hz⟩ := Kd.R_celln (0 : Int) HP3.out (L + 3) (by omega) (by omega)
    have HQ := Aside0.mk (Kd.R_putg HP3.out (L + 3) (v / 4294967296 % 256))
    have HC := Aside0.mk (below_set (v := .int .u8 (v / 4294967296 % 256)) (j := (L + 3).toNat) HB5.out (Kd.R_base HP3.out g rfl))
    go_wp2_with ((with_reducible refine gate_store (t := 5) (p := 42) rfl ?_); refine octet_put_uint64_put_stop ?_)
    unfold octet_put_uint64_stop
    refine store_event (t := 5) (p := 42) (v := .tmp 41) (w1 := w5.setCell ⟨g, (L + 3).toNat, none⟩ (.int .u8 (v / 4294967296 % 256))) rfl rfl rfl (by first | (go_simp; done) | (go_simp; rfl)) ?_
    intro w6 hw
    have hq := HQ.out.1; rw [← hw] at hq; have HP4 := Aside0.mk hq; have hc := HC.out; rw [← hw] at hc; have HB6 := Aside0.mk hc; clear hq hc hw hy hz HQ HC HP3 HB5
    go_wp2_with fail
    rw [rounds_succ]
    obtain ⟨hy, hz⟩ := Kd.R_celln (0 : Int) HP4.out (L + 4) (by omega) (by omega)
    have HQ := Aside0.mk (Kd.R_putg HP4.out (L + 4) (v / 16777216 % 256))
    have HC := Aside0.mk (below_set (v := .int .u8 (v / 16777216 % 256)) (j := (L + 4).toNat) HB6.out (Kd.R_base HP4.out g rfl))
    go_wp2_with ((with_reducible refine gate_store (t := 5) (p := 42) rfl ?_); refine octet_put_uint64_put_stop ?_)
    unfold octet_put_uint64_stop
    refine store_event (t := 5) (p := 42) (v := .tmp 41) (w1 := w6.setCell ⟨g, (L + 4).toNat, none⟩ (.int .u8 (v / 16777216 % 256))) rfl rfl rfl (by first | (go_simp; done) | (go_simp; rfl)) ?_
    intro w7 hw
    have hq := HQ.out.1; rw [← hw] at hq; have HP5 := Aside0.mk hq; have hc := HC.out; rw [← hw] at hc; have HB7 := Aside0.mk hc; clear hq hc hw hy hz HQ HC HP4 HB6
    go_wp2_with fail
    rw [rounds_succ]
    obtain ⟨hy, hz⟩ := Kd.R_celln (0 : Int) HP5.out (L + 5) (by omega) (by omega)
    have HQ := Aside0.mk (Kd.R_putg HP5.out (L + 5) (v / 65536 % 256))
    have HC := Aside0.mk (below_set (v := .int .u8 (v / 65536 % 256)) (j := (L + 5).toNat) HB7.out (Kd.R_base HP5.out g rfl))
    go_wp2_with ((with_reducible refine gate_store (t := 5) (p := 42) rfl ?_); refine octet_put_uint64_put_stop ?_)
    unfold octet_put_uint64_stop
    refine store_event (t := 5) (p := 42) (v := .tmp 41) (w1 := w7.setCell ⟨g, (L + 5).toNat, none⟩ (.int .u8 (v / 65536 % 256))) rfl rfl rfl (by first | (go_simp; done) | (go_simp; rfl)) ?_
    intro w8 hw
    have hq := HQ.out.1; rw [← hw] at hq; have HP6 := Aside0.mk hq; have hc := HC.out; rw [← hw] at hc; have HB8 := Aside0.mk hc; clear hq hc hw hy hz HQ HC HP5 HB7
    go_wp2_with fail
    rw [rounds_succ]
    obtain ⟨hy, hz⟩ := Kd.R_celln (0 : Int) HP6.out (L + 6) (by omega) (by omega)
    have HQ := Aside0.mk (Kd.R_putg HP6.out (L + 6) (v / 256 % 256))
    have HC := Aside0.mk (below_set (v := .int .u8 (v / 256 % 256)) (j := (L + 6).toNat) HB8.out (Kd.R_base HP6.out g rfl))
    go_wp2_with ((with_reducible refine gate_store (t := 5) (p := 42) rfl ?_); refine octet_put_uint64_put_stop ?_)
    unfold octet_put_uint64_stop
    refine store_event (t := 5) (p := 42) (v := .tmp 41) (w1 := w8.setCell ⟨g, (L + 6).toNat, none⟩ (.int .u8 (v / 256 % 256))) rfl rfl rfl (by first | (go_simp; done) | (go_simp; rfl)) ?_
    intro w9 hw
    have hq := HQ.out.1; rw [← hw] at hq; have HP7 := Aside0.mk hq; have hc := HC.out; rw [← hw] at hc; have HB9 := Aside0.mk hc; clear hq hc hw hy hz HQ HC HP6 HB8
    go_wp2_with fail
    rw [rounds_succ]
    obtain ⟨hy, hz⟩ := Kd.R_celln (0 : Int) HP7.out (L + 7) (by omega) (by omega)
    have HQ := Aside0.mk (Kd.R_putg HP7.out (L + 7) (v % 256))
    have HC := Aside0.mk (below_set (v := .int .u8 (v % 256)) (j := (L + 7).toNat) HB9.out (Kd.R_base HP7.out g rfl))
    go_wp2_with ((with_reducible refine gate_store (t := 5) (p := 42) rfl ?_); refine octet_put_uint64_put_stop ?_)
    unfold octet_put_uint64_stop
    refine store_event (t := 5) (p := 42) (v := .tmp 41) (w1 := w9.setCell ⟨g, (L + 7).toNat, none⟩ (.int .u8 (v % 256))) rfl rfl rfl (by first | (go_simp; done) | (go_simp; rfl)) ?_
    intro w10 hw
    have hq := HQ.out.1; rw [← hw] at hq; have HP8 := Aside0.mk hq; have hc := HC.out; rw [← hw] at hc; have HB10 := Aside0.mk hc; clear hq hc hw hy hz HQ HC HP7 HB9
    go_wp2_with fail
    rw [rounds_succ]
    go_wp2_with fail
    go_ret
    refine ⟨_, rfl, ?_, HB10.out⟩
    have e := HP8.out
    rw [← HY.out, octet_put_uint64.sets l zs L hL hzl, ← hzl] at e
    exact e
  · refine wp_loop_rounds 9 ?_
    rw [rounds_succ]
    obtain ⟨hy, hz⟩ := Kd.R_celln (0 : Int) HP0.out L (by omega) (by omega)
    have HQ := Aside0.mk (Kd.R_putg HP0.out L (v % 256))
    have HC := Aside0.mk (below_set (v := .int .u8 (v % 256)) (j := L.toNat) HB2.out (Kd.R_base HP0.out g rfl))
    go_wp2_with ((with_reducible refine gate_store (t := 5) (p := 42) rfl ?_); refine octet_put_uint64_put_stop ?_)
    unfold octet_put_uint64_stop
    refine store_event (t := 5) (p := 42) (v := .tmp 41) (w1 := w2.setCell ⟨g, L.toNat, none⟩ (.int .u8 (v % 256))) rfl rfl rfl (by first | (go_simp; done) | (go_simp; rfl)) ?_
    intro w3 hw
    have hq := HQ.out.1; rw [← hw] at hq; have HP1 := Aside0.mk hq; have hc := HC.out; rw [← hw] at hc; have HB3 := Aside0.mk hc; clear hq hc hw hy hz HQ HC HP0 HB2
    go_wp2_with fail
    rw [rounds_succ]
    obtain ⟨hy, hz⟩ := Kd.R_celln (0 : Int) HP1.out (L + 1) (by omega) (by omega)
    have HQ := Aside0.mk (Kd.R_putg HP1.out (L + 1) (v / 256 % 256))
    have HC := Aside0.mk (below_set (v := .int .u8 (v / 256 % 256)) (j := (L + 1).toNat) HB3.out (Kd.R_base HP1.out g rfl))
    go_wp2_with ((with_reducible refine gate_store (t := 5) (p := 42) rfl ?_); refine octet_put_uint64_put_stop ?_)
    unfold octet_put_uint64_stop
    refine store_event (t := 5) (p := 42) (v := .tmp 41) (w1 := w3.setCell ⟨g, (L + 1).toNat, none⟩ (.int .u8 (v / 256 % 256))) rfl rfl rfl (by first | (go_simp; done) | (go_simp; rfl)) ?_
    intro w4 hw
    have hq := HQ.out.1; rw [← hw] at hq; have HP2 := Aside0.mk hq; have hc := HC.out; rw [← hw] at hc; have HB4 := Aside0.mk hc; clear hq hc hw hy hz HQ HC HP1 HB3
    go_wp2_with fail
    rw [rounds_succ]
    obtain ⟨hy, hz⟩ := Kd.R_celln (0 : Int) HP2.out (L + 2) (by omega) (by omega)
    have HQ := Aside0.mk (Kd.R_putg HP2.out (L + 2) (v / 65536 % 256))
    have HC := Aside0.mk (below_set (v := .int .u8 (v / 65536 % 256)) (j := (L + 2).toNat) HB4.out (Kd.R_base HP2.out g rfl))
    go_wp2_with ((with_reducible refine gate_store (t := 5) (p := 42) rfl ?_); refine octet_put_uint64_put_stop ?_)
    unfold octet_put_uint64_stop
    refine store_event (t := 5) (p := 42) (v := .tmp 41) (w1 := w4.setCell ⟨g, (L + 2).toNat, none⟩ (.int .u8 (v / 65536 % 256))) rfl rfl rfl (by first | (go_simp; done) | (go_simp; rfl)) ?_
    intro w5 hw
    have hq := HQ.out.1; rw [← hw] at hq; have HP3 := Aside0.mk hq; have hc := HC.out; rw [← hw] at hc; have HB5 := Aside0.mk hc; clear hq hc hw hy hz HQ HC HP2 HB4
    go_wp2_with fail
    rw [rounds_succ]
    obtain ⟨hy, hz⟩ := Kd.R_celln (0 : Int) HP3.out (L + 3) (by omega) (by omega)
    have HQ := Aside0.mk (Kd.R_putg HP3.out (L + 3) (v / 16777216 % 256))
    have HC := Aside0.mk (below_set (v := .int .u8 (v / 16777216 % 256)) (j := (L + 3).toNat) HB5.out (Kd.R_base HP3.out g rfl))
    go_wp2_with ((with_reducible refine gate_store (t := 5) (p := 42) rfl ?_); refine octet_put_uint64_put_stop ?_)
    unfold octet_put_uint64_stop
    refine store_event (t := 5) (p := 42) (v := .tmp 41) (w1 := w5.setCell ⟨g, (L + 3).toNat, none⟩ (.int .u8 (v / 16777216 % 256))) rfl rfl rfl (by first | (go_simp; done) | (go_simp; rfl)) ?_
    intro w6 hw
    have hq := HQ.out.1; rw [← hw] at hq; have HP4 := Aside0.mk hq; have hc := HC.out; rw [← hw] at hc; have HB6 := Aside0.mk hc; clear hq hc hw hy hz HQ HC HP3 HB5
    go_wp2_with fail
    rw [rounds_succ]
    obtain ⟨hy, hz⟩ := Kd.R_celln (0 : Int) HP4.out (L + 4) (by omega) (by omega)
    have HQ := Aside0.mk (Kd.R_putg HP4.out (L + 4) (v / 4294967296 % 256))
    have HC := Aside0.mk (below_set (v := .int .u8 (v / 4294967296 % 256)) (j := (L + 4).toNat) HB6.out (Kd.R_base HP4.out g rfl))
    go_wp2_with ((with_reducible refine gate_store (t := 5) (p := 42) rfl ?_); refine octet_put_uint64_put_stop ?_)
    unfold octet_put_uint64_stop
    refine store_event (t := 5) (p := 42) (v := .tmp 41) (w1 := w6.setCell ⟨g, (L + 4).toNat, none⟩ (.int .u8 (v / 4294967296 % 256))) rfl rfl rfl (by first | (go_simp; done) | (go_simp; rfl)) ?_
    intro w7 hw
    have hq := HQ.out.1; rw [← hw] at hq; have HP5 := Aside0.mk hq; have hc := HC.out; rw [← hw] at hc; have HB7 := Aside0.mk hc; clear hq hc hw hy hz HQ HC HP4 HB6
    go_wp2_with fail
    rw [rounds_succ]
    obtain ⟨hy, hz⟩ := Kd.R_celln (0 : Int) HP5.out (L + 5) (by omega) (by omega)
    have HQ := Aside0.mk (Kd.R_putg HP5.out (L + 5) (v / 1099511627776 % 256))
    have HC := Aside0.mk (below_set (v := .int .u8 (v / 1099511627776 % 256)) (j := (L + 5).toNat) HB7.out (Kd.R_base HP5.out g rfl))
    go_wp2_with ((with_reducible refine gate_store (t := 5) (p := 42) rfl ?_); refine octet_put_uint64_put_stop ?_)
    unfold octet_put_uint64_stop
    refine store_event (t := 5) (p := 42) (v := .tmp 41) (w1 := w7.setCell ⟨g, (L + 5).toNat, none⟩ (.int .u8 (v / 1099511627776 % 256))) rfl rfl rfl (by first | (go_simp; done) | (go_simp; rfl)) ?_
    intro w8 hw
    have hq := HQ.out.1; rw [← hw] at hq; have HP6 := Aside0.mk hq; have hc := HC.out; rw [← hw] at hc; have HB8 := Aside0.mk hc; clear hq hc hw hy hz HQ HC HP5 HB7
    go_wp2_with fail
    rw [rounds_succ]
    obtain ⟨hy, hz⟩ := Kd.R_celln (0 : Int) HP6.out (L + 6) (by omega) (by omega)
    have HQ := Aside0.mk (Kd.R_putg HP6.out (L + 6) (v / 281474976710656 % 256))
    have HC := Aside0.mk (below_set (v := .int .u8 (v / 281474976710656 % 256)) (j := (L + 6).toNat) HB8.out (Kd.R_base HP6.out g rfl))
    go_wp2_with ((with_reducible refine gate_store (t := 5) (p := 42) rfl ?_); refine octet_put_uint64_put_stop ?_)
    unfold octet_put_uint64_stop
    refine store_event (t := 5) (p := 42) (v := .tmp 41) (w1 := w8.setCell ⟨g, (L + 6).toNat, none⟩ (.int .u8 (v / 281474976710656 % 256))) rfl rfl rfl (by first | (go_simp; done) | (go_simp; rfl)) ?_
    intro w9 hw
    have hq := HQ.out.1; rw [← hw] at hq; have HP7 := Aside0.mk hq; have hc := HC.out; rw [← hw] at hc; have HB9 := Aside0.mk hc; clear hq hc hw hy hz HQ HC HP6 HB8
    go_wp2_with fail
    rw [rounds_succ]
    obtain ⟨hy, hz⟩ := Kd.R_celln (0 : Int) HP7.out (L + 7) (by omega) (by omega)
    have HQ := Aside0.mk (Kd.R_putg HP7.out (L + 7) (v / 72057594037927936 % 256))
    have HC := Aside0.mk (below_set (v := .int .u8 (v / 72057594037927936 % 256)) (j := (L + 7).toNat) HB9.out (Kd.R_base HP7.out g rfl))
    go_wp2_with ((with_reducible refine gate_store (t := 5) (p := 42) rfl ?_); refine octet_put_uint64_put_stop ?_)
    unfold octet_put_uint64_stop
    refine store_event (t := 5) (p := 42) (v := .tmp 41) (w1 := w9.setCell ⟨g, (L + 7).toNat, none⟩ (.int .u8 (v / 72057594037927936 % 256))) rfl rfl rfl (by first | (go_simp; done) | (go_simp; rfl)) ?_
    intro w10 hw
    have hq := HQ.out.1; rw [← hw] at hq; have HP8 := Aside0.mk hq; have hc := HC.out; rw [← hw] at hc; have HB10 := Aside0.mk hc; clear hq hc hw hy hz HQ HC HP7 HB9
    go_wp2_with fail
    rw [rounds_succ]
    go_wp2_with fail
    go_ret
    refine ⟨_, rfl, ?_, HB10.out⟩
    have e := HP8.out
    rw [← HY.out, octet_put_uint64.sets l zs L hL hzl, ← hzl] at e
    exact e
theorem octet_put_uint64.calls (A0 : Option Addr) (c0 : Nat) (l0 : List Int) (a1 : Int) (a2 : Int) (a3 : Bool) (r : List Int) (w : World) (hr0 : Kd.C (Kd.int .u8) w A0 l0.length l0) (hc0 : l0.length ≤ c0) (h : octet_put_uint64.f l0 a1 a2 a3 = some r) :
    Calls Tryd.prog 52 #[.slice A0 l0.length c0, .int .u64 a1, .int .i64 a2, .bool a3] w fun e w' => ∃ v0_ : Value, e = .returned (v0_) ∧ Kd.R (Kd.int .u8) 5 w' w.heap.size (fun _ => True) v0_ r ∧ Below w.heap.size w w' := by
  unfold octet_put_uint64.f at h
  by_cases c : a2 = 8 ∧ l0.length ≤ 140737488355312
  · rw [if_pos c] at h
    obtain rfl := Option.some.inj h
    obtain ⟨rfl, hl⟩ := c
    exact octet_put_uint64.any A0 c0 l0 a1 a3 w hr0 hc0 hl
  · rw [if_neg c] at h
    exact absurd h (by simp)

/-! ### octet_Put64: function 36 -/
def octet_Put64.f (l0 : List Int) (a1 : Int) (a2 : Bool) : Option (List Int) := (octet_put_uint64.f l0 a1 8 a2).bind fun t159 => (some t159)
set_option maxHeartbeats 8000000 in
set_option maxRecDepth 100000 in
theorem octet_Put64.calls (A0 : Option Addr) (c0 : Nat) (l0 : List Int) (a1 : Int) (a2 : Bool) (r : List Int) (w : World) (hr0 : Kd.C (Kd.int .u8) w A0 l0.length l0) (hc0 : l0.length ≤ c0) (h : octet_Put64.f l0 a1 a2 = some r) :
    Calls Tryd.prog 36 #[.slice A0 l0.length c0, .int .u64 a1, .bool a2] w fun e w' => ∃ v0_ : Value, e = .returned (v0_) ∧ Kd.R (Kd.int .u8) 5 w' w.heap.size (fun _ => True) v0_ r ∧ Below w.heap.size w w' := by
  have HR0 := Aside0.mk hr0
  have HC0 := Aside0.mk hc0
  clear hr0 hc0
  have HB := Aside0.mk (Below.refl w.heap.size w)
  have H : ((octet_put_uint64.f l0 a1 8 a2).bind fun t159 => (some t159)) = some r := h
  clear h
  replace H := Option.bind_eq_some_iff.mp H
  obtain ⟨t159, A40, H⟩ := H
  replace H : (some t159) = some r := H
  have A4 := Aside0.mk A40
  clear A40
  obtain rfl := Option.some.inj H
  go_enter Tryd.func36, Tryd.ntmps36
  go_wp2_with (first | ((with_reducible refine gate_callee (f := 52) rfl ?_); refine goesL_ (some 10) rfl rfl Tryd.func52 (by kernel_rfl) rfl #[.slice A0 l0.length c0, .int .u64 a1, .int .i64 8, .bool a2] rfl (by (try simp only [List.map_toArray, List.map_cons, List.map_nil]); first | done | rfl | (simp only [List.length_drop, List.length_take]; rfl)) ?_; (with_reducible refine (octet_put_uint64.calls _ _ l0 a1 8 a2 t159 _ ?side1 ?side2 A4.out).mono ?_); (case side1 => repeat (first | exact HR0.out | (with_reducible refine Kd.C_alloc ?_ _) | (with_reducible refine Kd.C_drewN ?_ _) | (with_reducible refine Kd.C_drew ?_))); (case side2 => exact HC0.out); rintro e w5 ⟨v160, rfl, ho0, hb⟩; refine ⟨_, rfl, ?_⟩; have n0_ := Aside0.mk (Kd.R_lower ho0 (below_size (by repeat (first | (with_reducible first | exact HB.out | apply below_alloc | apply pw_below_drewN | apply below_drew1) | exact HB.out)))); have n1_ := Aside0.mk (below_step (by repeat (first | (with_reducible first | exact HB.out | apply below_alloc | apply pw_below_drewN | apply below_drew1) | exact HB.out)) hb); clear HB; have HO161 := n0_; have HB := n1_; clear n0_ n1_; (try clear hb); (try clear hb2); (try clear hk); (try clear hi); (try clear ho0)))
  go_ret
  exact ⟨_, by first | rfl | (simp [errW_none, errW_some] <;> rfl) | (simp [*, errW_none, errW_some] <;> rfl), by (with_reducible repeat (first | apply Kd.R_alloc | apply Kd.R_drewN | apply Kd.R_drew)); exact HO161.out, by repeat (first | (with_reducible first | exact HB.out | apply below_alloc | apply pw_below_drewN | apply below_drew1) | exact HB.out)⟩

-- NOT PRINTED: function 74 (wkb_printer_points)

-- NOT PRINTED: function 46 (wkb_printer_geom)

-- NOT PRINTED: function 24 (wkb_Mixed)

-- NOT PRINTED: function 22 (wkb_Print)

end Go.Proofs.YtiiolhnpnlmkjaaDoor.PWkbPrints
