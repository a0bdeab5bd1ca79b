/- api.Wrap by contract; errors as values. No conditions. -/
import Derived.Test.YtiiolhnpnlmkjaaDoorTWrong
import Derived.Test.YtiiolhnpnlmkjaaDoorTTells
namespace Go.Proofs.YtiiolhnpnlmkjaaDoor.Tree
open Go.RowKit Go.Proofs.YtiiolhnpnlmkjaaDoorW.PrintWords Go.Proofs.YtiiolhnpnlmkjaaDoorW.PrintLast Go.Proofs.YtiiolhnpnlmkjaaDoorW.PrintMore
set_option linter.unusedVariables false
set_option linter.unusedSimpArgs false
attribute [local go_sem] Oper.semAt_some max2_int max_two
/-- An error: nil, or a new api.Fault with its place and its number. -/
def ErrV (w : World) (v : Value) : Option (Int × Int) → Prop
  | none => v = .nilIface
  | some (a, c) => ∃ g : Nat, v = .iface 109 (.pointer (some ⟨g, 0, none⟩)) ∧ w.heap[g]? = some (.cells #[.int .i64 a, .iface 70 (.int .i64 c)] 113 (0, 0))
theorem ErrV.below {w w1 : World} {v : Value} {x : Option (Int × Int)} (h : ErrV w v x) (hb : Below w.heap.size w w1) : ErrV w1 v x := by
  rcases x with _ | ⟨a, c⟩
  · exact h
  · obtain ⟨g, e, h⟩ := h
    exact ⟨g, e, (hb.block g (Array.getElem?_eq_some_iff.1 h).1).trans h⟩
theorem wrap_calls (a c : Int) (w : World) :
    Calls Tryd.prog 56 #[.int .i64 a, .int .i64 c] w fun e w' => ∃ v, e = .returned v ∧ ErrV w' v (some (a, c)) ∧ Below w.heap.size w w' := by
  go_enter Tryd.func56, Tryd.ntmps56
  go_wp2_with fail
  go_ret
  refine ⟨_, rfl, ⟨_, rfl, ?_⟩, by repeat (first | exact Below.refl _ _ | apply below_alloc)⟩
  exact World.alloc_heap_new _ _
/-- What is wrong with a tree's geometries in the order of the text, so many geometries and points ahead of them. -/
def scanC (k n : Nat) : List It → Option (Int × Int)
  | [] => none
  | x :: l => if wrongC x ((n + 1 + (own x.f0).length : Nat) : Int) = 0 then scanC (k + 1) (n + 1 + (own x.f0).length) l else some ((k : Int), wrongC x ((n + 1 + (own x.f0).length : Nat) : Int))
theorem scanC_cons (k n : Nat) (x : It) (l : List It) : scanC k n (x :: l) = if wrongC x ((n + 1 + (own x.f0).length : Nat) : Int) = 0 then scanC (k + 1) (n + 1 + (own x.f0).length) l else some ((k : Int), wrongC x ((n + 1 + (own x.f0).length : Nat) : Int)) := rfl
theorem ptsOf_cons (x : It) (l : List It) : ptsOf (x :: l) = (own x.f0).length + ptsOf l := by
  have : ∀ (l : List It) (m : Nat), l.foldl (fun n x => n + (own x.f0).length) m = m + ptsOf l := by
    intro l
    induction l with
    | nil => intro m; rfl
    | cons y l ih =>
      intro m
      unfold ptsOf
      rw [List.foldl_cons, List.foldl_cons, ih, ih]; omega
  unfold ptsOf
  rw [List.foldl_cons, this, ptsOf]; omega
theorem scanC_append (p : List It) : ∀ (k n : Nat) (q : List It), scanC k n p = none → scanC k n (p ++ q) = scanC (k + p.length) (n + p.length + ptsOf p) q := by
  induction p with
  | nil => intro k n q _; rfl
  | cons x p ih =>
    intro k n q h
    rw [List.cons_append]
    rw [scanC_cons] at h ⊢
    split at h
    · rename_i c
      rw [if_pos c, ih _ _ _ h, ptsOf_cons, List.length_cons]
      rw [show k + 1 + p.length = k + (p.length + 1) by omega, show n + 1 + (own x.f0).length + p.length + ptsOf p = n + (p.length + 1) + ((own x.f0).length + ptsOf p) by omega]
    · cases h
theorem scanC_stop (p : List It) : ∀ (k n : Nat) (q : List It) (e : Int × Int), scanC k n p = some e → scanC k n (p ++ q) = some e := by
  induction p with
  | nil => intro k n q e h; cases h
  | cons x p ih =>
    intro k n q e h
    rw [List.cons_append]
    rw [scanC_cons] at h ⊢
    split at h
    · rename_i c
      rw [if_pos c]; exact ih _ _ _ _ h
    · rename_i c
      rw [if_neg c]; exact h
/-- A tree's flaw: the place, the number. -/
def checkR (g : Ge) : Option (Int × Int) := scanC 0 0 (nodes g 1 0)
theorem results_err {fn : Func} {a : Tmp} (h : fn.results = #[.cell a 32]) (tmps : Array Value) (w : World) {ad : Addr} {u : Value} (hp : tmps.getD a undef = .pointer (some ad)) (hc : w.cell? ad = some u) : (results fn tmps).run Tryd.prog w = .ok u w := by
  rw [Array.getD_eq_getD_getElem?] at hp
  simp [results, h, hp, hc, go_sem, asAddr]
theorem put_far {w : World} {k : Nat} {b : Obj} (h : w.heap[k]? = some b) {D : Nat} (hne : k ≠ D) (o : Obj) : (w.putObj D o).heap[k]? = some b := by
  simp [World.putObj, Array.getElem?_setIfInBounds, Ne.symm hne, h]
theorem below_set1 {w : World} {n g t : Nat} {cs : Array Value} (h : w.heap[g]? = some (.cells cs t (0, 0))) (hn : n ≤ g) (u : Value) : Below n w (w.setCell ⟨g, 0, none⟩ u) := (Below.refl n w).setCell hn u
theorem tot_eq (a b c : Nat) : (((0 + a + b + 1 + c : Nat)) : Int) = (a : Int) + (b : Int) + (1 + (c : Int)) := by omega
theorem tot_eq2 (a b c : Nat) : (((a + 1 : Nat)) : Int) + ((b + c : Nat) : Int) = (a : Int) + (b : Int) + (1 + (c : Int)) := by omega
theorem ErrV.far {w : World} {v u : Value} {x : Option (Int × Int)} (h : ErrV w v x) {b : Nat} {cs : Array Value} (hk : w.heap[b]? = some (.cells cs 32 (0, 0))) : ErrV (w.setCell ⟨b, 0, none⟩ u) v x := by
  rcases x with _ | ⟨a, c⟩
  · exact h
  · obtain ⟨g, e, h⟩ := h
    refine ⟨g, e, blk_far h (p := ⟨b, 0, none⟩) ?_ _⟩
    intro he
    have he' : g = b := he
    subst he'
    rw [hk] at h
    cases h
set_option maxRecDepth 100000 in
set_option maxHeartbeats 4000000 in
theorem check_calls (v : Value) (g : Ge) (w : World) (hv : IsG w v g) (hbk : g.bulk ≤ 1073741824) :
    Calls Tryd.prog 44 #[v] w fun e w' => ∃ u, e = .returned u ∧ ErrV w' u (checkR g) ∧ Below w.heap.size w w' := by
  have hv' := hv
  obtain ⟨A1, c1, A2, c2, A3, c3, rfl, _⟩ := hv'
  obtain ⟨w0, hw0⟩ : ∃ w0, w0 = w.alloc (.cells #[.int .i64 g.f0, .slice A1 g.f1.length c1, .slice A2 g.f2.length c2, .slice A3 g.f3.length c3] 28) := ⟨_, rfl⟩
  have hs0 : w0.heap.size = w.heap.size + 1 := by rw [hw0]; simp
  have hG : GAt w0 ⟨w.heap.size, 0, none⟩ g := by
    refine GAt.box (hv.below (w1 := w0) ?_) (b := w.heap.size) (cs := #[.int .i64 g.f0, .slice A1 g.f1.length c1, .slice A2 g.f2.length c2, .slice A3 g.f3.length c3]) ?_ rfl
    · rw [hw0]; exact below_alloc (Below.refl _ _) _
    · rw [hw0]; exact World.alloc_heap_new w _
  refine (callsIn_wide (n := 3)).1 ?_
  refine callsIn_of_wp_marks Tryd.func44 rfl trivial ?_ rfl
  simp only [Tryd.ntmps44, List.size_toArray, List.length_cons, List.length_nil, Nat.reduceAdd, Nat.reduceSub, Array.replicate_succ, Array.replicate_zero, List.push_toArray, List.append_toArray, List.nil_append, List.cons_append]
  gi_wp2_with fail
  refine ⟨trivial, ?_⟩
  refine (Free.plain.calls (all_calls _ _)).mono ?_
  rintro e w' ⟨rfl, rfl⟩
  gi_wp2_with fail
  refine range_all (w0.heap.size) w0 rfl g ⟨w.heap.size, 0, none⟩ hG hbk ?hw (w.heap.size + 4) ?hBt rfl rfl
    (fun x B => { tmps := #[Value.agg #[.int .i64 g.f0, .slice A1 g.f1.length c1, .slice A2 g.f2.length c2, .slice A3 g.f3.length c3], .pointer (some ⟨w.heap.size, 0, none⟩), .pointer (some ⟨w.heap.size + 1, 0, none⟩), .pointer (some ⟨w.heap.size + 2, 0, none⟩), .pointer (some ⟨w.heap.size + 3, 0, none⟩), .pointer (some ⟨B, 0, none⟩), undef, .func (.func 81) #[] #[.pointer (some ⟨w.heap.size + 4, 0, none⟩)], x.enc, undef, undef, undef, undef, undef, undef, undef, undef, undef, undef, undef, undef, undef, undef, undef, undef], defers := [] })
    ?hassign
    (fun pre W => W.heap[w.heap.size + 1]? = some (.cells #[.nilIface] 32 (0, 0)) ∧ W.heap[w.heap.size + 2]? = some (.cells #[.int .i64 pre.length] 3 (0, 0)) ∧ W.heap[w.heap.size + 3]? = some (.cells #[.int .i64 ((pre.length : Int) + (ptsOf pre : Int))] 3 (0, 0)) ∧ scanC 0 0 pre = none)
    (fun pre W => ∃ u x, W.heap[w.heap.size + 1]? = some (.cells #[u] 32 (0, 0)) ∧ scanC 0 0 pre = some x ∧ ErrV W u (some x)) ?hI ?hIx ?h0 ?hbody ?hdone ?hstop
  case hw => rw [hw0]; exact ((((Below.refl _ _).alloc (Nat.le_refl _) _).alloc (by simp) _).alloc (by simp) _).alloc (by simp) _
  case hBt => exact (blk_cell (heap_at (by simp) _) 0).trans rfl
  case hassign =>
    intro l x W K hK
    dsimp only [Spot.enc]
    gi_wp2
    exact hK
  case hI =>
    rintro s A B row ⟨h1, h2, h3, h4⟩ hg hr
    exact ⟨(grownBy_keeps_cells hg (fun r e => (hr r e).2) h1 rfl).trans h1, (grownBy_keeps_cells hg (fun r e => (hr r e).2) h2 rfl).trans h2, (grownBy_keeps_cells hg (fun r e => (hr r e).2) h3 rfl).trans h3, h4⟩
  case hIx =>
    rintro s A B row ⟨u, x, h1, h2, ⟨k, h3, h4⟩⟩ hg hr
    exact ⟨u, x, (grownBy_keeps_cells hg (fun r e => (hr r e).2) h1 rfl).trans h1, h2, k, h3, (grownBy_keeps_cells hg (fun r e => (hr r e).2) h4 rfl).trans h4⟩
  case h0 => exact ⟨heap_old (heap_old (heap_old (heap_at (by simp) _) _) _) _, heap_old (heap_old (heap_at (by simp) _) _) _, heap_old (heap_at (by simp) _) _, rfl⟩
  case hbody =>
    rintro l pre x Bx W hm hGx hb hn hB hbx ⟨hi1, hi2, hi3, hi4⟩ hlen
    have hmx : Tryd.prog.follows .mixedOrders = true := by kernel_rfl
    simp only [World.size_alloc] at hB
    have hp := ptsOf_le (pre ++ [x.it]) 1073741824 (fun y hy => by have := nodes_bulk (hm y hy); have := own_len y.f0; omega)
    have hl := nodes_len g 1 0
    have hp2 : (pre ++ [x.it]).length * 1073741824 ≤ 1073741824 * 1073741824 := Nat.mul_le_mul_right _ (by omega)
    rw [ptsOf_snoc] at hp
    rw [List.length_append, List.length_singleton] at hlen
    have hbx' := nodes_bulk (hm x.it (by simp))
    have b1 : pre.length + 1 ≤ 1073741824 := by omega
    have b2 : ptsOf pre + (own x.g).length ≤ 1152921504606846976 := by have : (own x.it.f0).length = (own x.g).length := rfl; omega
    have m3 : W.drew.cell? ⟨w.heap.size + 3, 0, none⟩ = some (.int .i64 ((pre.length : Int) + (ptsOf pre : Int))) := (blk_cell (w := W.drew) hi3 0).trans rfl
    have f3 : W.drew.frozen? ⟨w.heap.size + 3, 0, none⟩ = false := blk_frozen (w := W.drew) hi3 0
    have t0 : W.drew.cell? ⟨Bx, 0, none⟩ = some (.pointer (some x.ad)) := (blk_cell (w := W.drew) hbx 0).trans rfl
    have HO := Aside0.mk (own_calls x.g x.ad W.drew (hGx.below (hb.trans (below_drew (Below.refl _ _)))) (by exact Nat.le_trans hbx' hbk))
    obtain ⟨W2, hW2⟩ : ∃ W2, W2 = (W.setCell ⟨w.heap.size + 3, 0, none⟩ (.int .i64 ((pre.length : Int) + (ptsOf pre : Int) + (1 + ((own x.g).length : Int))))).drew := ⟨_, rfl⟩
    have k1 : W2.heap[w.heap.size + 1]? = some (.cells #[.nilIface] 32 (0, 0)) := by rw [hW2]; exact blk_far hi1 (p := ⟨w.heap.size + 3, 0, none⟩) (by simp) _
    have k2 : W2.heap[w.heap.size + 2]? = some (.cells #[.int .i64 pre.length] 3 (0, 0)) := by rw [hW2]; exact blk_far hi2 (p := ⟨w.heap.size + 3, 0, none⟩) (by simp) _
    have k3 : W2.heap[w.heap.size + 3]? = some (.cells #[.int .i64 ((pre.length : Int) + (ptsOf pre : Int) + (1 + ((own x.g).length : Int)))] 3 (0, 0)) := by rw [hW2]; exact blk_set1 hi3 _
    have kx : W2.heap[Bx]? = some (.cells #[.pointer (some x.ad), .int .i64 x.lvl, .int .i64 x.of_] 123 (0, 0)) := by rw [hW2]; exact blk_far hbx (p := ⟨w.heap.size + 3, 0, none⟩) (by show Bx ≠ w.heap.size + 3; omega) _
    have st2 : Step w0.heap.size (((((w.alloc (.cells #[.int .i64 g.f0, .slice A1 g.f1.length c1, .slice A2 g.f2.length c2, .slice A3 g.f3.length c3] 28)).alloc (.cells #[.nilIface] 32)).alloc (.cells #[.int .i64 0] 3)).alloc (.cells #[.int .i64 0] 3)).alloc (.cells #[.pointer (some ⟨w.heap.size, 0, none⟩)] 121)).heap.size W W2 := by
      rw [hW2]; exact ((Step.refl _ _ _).set hi3 (by decide) (by omega) _).drew
    have hn2 : w0.heap.size ≤ W2.heap.size := by rw [hW2]; simpa using hn
    have u0 : W2.cell? ⟨Bx, 0, none⟩ = some (.pointer (some x.ad)) := (blk_cell kx 0).trans rfl
    have u1 : W2.cell? ⟨Bx, 1, none⟩ = some (.int .i64 x.lvl) := (blk_cell kx 1).trans rfl
    have u2 : W2.cell? ⟨Bx, 2, none⟩ = some (.int .i64 x.of_) := (blk_cell kx 2).trans rfl
    have u3 : W2.cell? ⟨w.heap.size + 3, 0, none⟩ = some (.int .i64 ((pre.length : Int) + (ptsOf pre : Int) + (1 + ((own x.g).length : Int)))) := (blk_cell k3 0).trans rfl
    obtain ⟨c, hc⟩ : ∃ c, c = wrongC x.it ((pre.length : Int) + (ptsOf pre : Int) + (1 + ((own x.g).length : Int))) := ⟨_, rfl⟩
    have hwr := wrong_calls x.it ((pre.length : Int) + (ptsOf pre : Int) + (1 + ((own x.g).length : Int))) x.ad W2 (hGx.below (hb.trans st2.kp.below)) (by exact Nat.le_trans hbx' hbk)
    rw [← hc] at hwr
    have HWR := Aside0.mk hwr
    have HS := Aside0.mk (show scanC 0 0 (pre ++ [x.it]) = if c = 0 then none else some ((pre.length : Int), c) by
      rw [scanC_append pre 0 0 _ hi4, scanC_cons, show (((0 + pre.length + ptsOf pre + 1 + (own x.it.f0).length : Nat)) : Int) = (pre.length : Int) + (ptsOf pre : Int) + (1 + ((own x.g).length : Int)) from tot_eq _ _ _, ← hc]
      simp [scanC])
    have K1 := Aside0.mk k1
    have K2 := Aside0.mk k2
    have K3 := Aside0.mk k3
    have ST := Aside0.mk st2
    have HW2 := Aside0.mk hW2
    have HN2 := Aside0.mk (And.intro hn2 hs0)
    clear hi1 hi2 hi3 hi4 hm hGx hb hn hB hbx hlen hp hl hp2 hbx' k1 k2 k3 kx st2 hn2 hwr hc hW2 hs0
    gi_wp2_with fail
    refine Free.draws (.round l) hmx ?hq (by decide) ?_
    case hq => rintro ⟨_, _, h⟩; exact h
    refine any_still_tail 6 (by kernel_rfl) ?_
    simp only [List.take_succ_cons, List.take_zero, List.drop_succ_cons, List.drop_zero]
    repeat still_step
    still_call HO.out
    repeat still_step
    refine wpStill_nil ?_
    go_wp2_with fail
    rw [← HW2.out]
    gi_wp2_with fail
    refine ⟨trivial, ((Free.round l).calls HWR.out).mono ?_⟩
    rintro e W3 ⟨rfl, hb3⟩
    have ST3 := Aside0.mk (ST.out.below hb3 HN2.out.1)
    have k1 := (hb3.block _ (blk_lt K1.out)).trans K1.out
    have k2 := (hb3.block _ (blk_lt K2.out)).trans K2.out
    have k3 := (hb3.block _ (blk_lt K3.out)).trans K3.out
    have HN3 := Aside0.mk (And.intro (Nat.le_trans HN2.out.1 hb3.size) HN2.out.2)
    have m2 : W3.cell? ⟨w.heap.size + 2, 0, none⟩ = some (.int .i64 pre.length) := (blk_cell k2 0).trans rfl
    clear K1 K2 K3 ST HN2 hb3
    by_cases hc : c = 0
    · subst hc
      have f2 := blk_frozen k2 0
      have K1 := Aside0.mk k1
      have K2 := Aside0.mk k2
      have K3 := Aside0.mk k3
      clear k1 k2 k3
      gi_wp2_with fail
      refine ⟨ST3.out.set K2.out (by decide) (by have := HN3.out; omega) _, ?_⟩
      show _ ∧ _ ∧ _ ∧ _
      rw [List.length_append, List.length_singleton, ptsOf_snoc]
      refine ⟨blk_far K1.out (p := ⟨w.heap.size + 2, 0, none⟩) (by simp) _, blk_set1 K2.out _, ?_, ?_⟩
      · rw [tot_eq2]
        exact blk_far K3.out (p := ⟨w.heap.size + 2, 0, none⟩) (by simp) _
      · rw [HS.out]; simp
    · have q0 : (c == 0) = false := beq_eq_false_iff_ne.mpr hc
      have HC0 := Aside0.mk hc
      have K1 := Aside0.mk k1
      clear k1 k2 k3 hc
      gi_wp2_with fail
      refine ⟨trivial, ((Free.round l).calls (wrap_calls _ _ W3)).mono ?_⟩
      rintro e W4 ⟨u, rfl, ⟨gk, rfl, hu⟩, hb4⟩
      have k1 := (hb4.block _ (blk_lt K1.out)).trans K1.out
      have f1 := blk_frozen k1 0
      have m1 : W4.cell? ⟨w.heap.size + 1, 0, none⟩ = some .nilIface := (blk_cell k1 0).trans rfl
      have ST4 := Aside0.mk (ST3.out.below hb4 HN3.out.1)
      have HU := Aside0.mk hu
      have K4 := Aside0.mk k1
      clear hu k1 hb4 K1
      gi_wp2_with fail
      refine ⟨ST4.out.set K4.out (by decide) (by have := HN3.out; omega) _, _, ((pre.length : Int), c), blk_set1 K4.out _, ?_, ErrV.far (x := some ((pre.length : Int), c)) ⟨gk, rfl, HU.out⟩ K4.out⟩
      rw [HS.out, if_neg HC0.out]
  case hdone =>
    rintro D W hD ⟨hi1, hi2, hi3, hi4⟩ hb hK
    simp only [World.size_alloc] at hD
    have f1 := blk_frozen hi1 0
    have m1 : W.cell? ⟨w.heap.size + 1, 0, none⟩ = some .nilIface := (blk_cell hi1 0).trans rfl
    have K1 := Aside0.mk hi1
    dsimp only [behind]
    clear hi1 hi2 hi3
    gi_wp2_with fail
    have hK2 : (W.setCell ⟨w.heap.size + 1, 0, none⟩ .nilIface).heap[D]? = some (.deferred (some [])) := (Below.heap_setCell _ _ _ _ (by show D ≠ w.heap.size + 1; omega)).trans hK
    refine ⟨by simp, .inl ⟨_, _, rfl, run_takeDeferred hK2, ?_⟩⟩
    have hb0 : Below w.heap.size w w0 := by rw [hw0]; exact below_alloc (Below.refl _ _) _
    have hne : w.heap.size + 1 ≠ D := by omega
    have hc0 : ((W.setCell ⟨w.heap.size + 1, 0, none⟩ .nilIface).putObj D (.deferred none)).cell? ⟨w.heap.size + 1, 0, none⟩ = some .nilIface := (blk_cell (put_far (blk_set1 K1.out _) hne _) 0).trans rfl
    refine ⟨_, results_err rfl _ _ rfl hc0, _, rfl, ?_, ?_⟩
    · unfold checkR; rw [hi4]; rfl
    · have h1 := (hb0.trans (hb.mono (by omega))).trans (below_set1 (w := W) K1.out (by omega) .nilIface)
      exact h1.grown (grownBy_putObj' _ _ _) (by simp; have := hb.size; omega) (fun k e => by cases e; omega)
  case hstop =>
    rintro D p W hD ⟨q, hp⟩ ⟨u, x, hi1, hi2, hi3⟩ hb hK
    simp only [World.size_alloc] at hD
    dsimp only [behind]
    gi_wp2_with fail
    refine ⟨by simp, .inl ⟨_, _, rfl, run_takeDeferred hK, ?_⟩⟩
    have hb0 : Below w.heap.size w w0 := by rw [hw0]; exact below_alloc (Below.refl _ _) _
    have hne : w.heap.size + 1 ≠ D := by omega
    have hc0 : (W.putObj D (.deferred none)).cell? ⟨w.heap.size + 1, 0, none⟩ = some u := (blk_cell (put_far hi1 hne _) 0).trans rfl
    refine ⟨_, results_err rfl _ _ rfl hc0, _, rfl, ?_, ?_⟩
    · unfold checkR; rw [← hp, scanC_stop _ _ _ _ _ hi2]
      obtain ⟨g, e, h⟩ := hi3
      refine ⟨g, e, put_far h (fun he => ?_) _⟩
      subst he
      rw [hK] at h; cases h
    · exact (hb0.trans (hb.mono (by omega))).grown (grownBy_putObj' _ _ _) (by have := hb.size; omega) (fun k e => by cases e; omega)
end Go.Proofs.YtiiolhnpnlmkjaaDoor.Tree
