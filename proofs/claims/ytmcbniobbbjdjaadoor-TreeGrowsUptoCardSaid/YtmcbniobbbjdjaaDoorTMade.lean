/- The reference's made by contract: the tree that begins at a node, or none. No conditions but those told. -/
import Derived.Test.YtmcbniobbbjdjaaDoorTNext
import Derived.Test.YtmcbniobbbjdjaaDoorTBackSem
namespace Go.Proofs.YtmcbniobbbjdjaaDoor.Tree
open Go.RowKit Go.Proofs.YtmcbniobbbjdjaaDoorW.PrintWords Go.Proofs.YtmcbniobbbjdjaaDoorW.PrintLast Go.Proofs.YtmcbniobbbjdjaaDoorW.PrintMore
set_option linter.unusedVariables false
set_option linter.unusedSimpArgs false
set_option maxRecDepth 100000 in
set_option maxHeartbeats 8000000 in
theorem lone_calls (x : Nd) (A1 A2 : Option Addr) (c1 c2 : Nat) (w : World) (h1 : Kd.C (Kd.int .i64) w A1 x.f1.length x.f1) (hb1 : x.f1.length ≤ 1073741824) (hb2 : x.f2.length ≤ 1073741824) :
    Calls Tryd.prog 41 #[.agg #[.int .i64 x.f0, .slice A1 x.f1.length c1, .slice A2 x.f2.length c2]] w fun e w' => e = .returned (.bool (soundB x)) ∧ Below w.heap.size w w' := by
  have H1 := Aside0.mk h1
  clear h1
  have hun := Tryd.underlying54
  rw [soundB_eq]
  go_enter Tryd.func41, Tryd.ntmps41
  go_upto_region 1 with fail
  obtain ⟨gn, hgn⟩ : ∃ y, y = w.heap.size := ⟨_, rfl⟩
  obtain ⟨W0, hW0⟩ : ∃ y, y = w.alloc (.cells #[.int .i64 x.f0, .slice A1 x.f1.length c1, .slice A2 x.f2.length c2] 54) := ⟨_, rfl⟩
  rw [← hW0, ← hgn]
  have kn : W0.heap[gn]? = some (.cells #[.int .i64 x.f0, .slice A1 x.f1.length c1, .slice A2 x.f2.length c2] 54 (0, 0)) := by rw [hW0, hgn]; exact World.alloc_heap_new _ _
  have HB := Aside0.mk (show Below w.heap.size w W0 by rw [hW0]; exact below_alloc (Below.refl _ _) _)
  clear hW0 hgn
  have z0 : W0.cell? ⟨gn, 0, none⟩ = some (.int .i64 x.f0) := (blk_cell kn 0).trans rfl
  have z1 : W0.cell? ⟨gn, 1, none⟩ = some (.slice A1 x.f1.length c1) := (blk_cell kn 1).trans rfl
  have z2 : W0.cell? ⟨gn, 2, none⟩ = some (.slice A2 x.f2.length c2) := (blk_cell kn 2).trans rfl
  clear kn
  go_cut [23] (fun c wx => c = .bool (!headB x) ∧ wx = W0)
  case first =>
    by_cases a1 : x.f0 < 1
    · have b1 : ¬ 1 ≤ x.f0 := by omega
      go_wp2_with fail
      go_meet
      exact ⟨by simp [headB, kindB, b1], rfl⟩
    · have b1 : 1 ≤ x.f0 := by omega
      by_cases a2 : 7 < x.f0
      · have b2 : ¬ x.f0 ≤ 7 := by omega
        go_wp2_with fail
        go_meet
        exact ⟨by simp [headB, kindB, b1, b2], rfl⟩
      · have b2 : x.f0 ≤ 7 := by omega
        by_cases a3 : x.f0 = 3
        · have q1 : (x.f0 == 3) = true := beq_iff_eq.mpr a3
          have q2 : (x.f0 != 3) = false := bne_eq_false_iff_eq.mpr a3
          have A3 := Aside0.mk a3
          clear a3
          go_wp2_with fail
          go_meet
          exact ⟨by simp [headB, kindB, A3.out], rfl⟩
        · have q1 : (x.f0 == 3) = false := beq_eq_false_iff_ne.mpr a3
          have q2 : (x.f0 != 3) = true := bne_iff_ne.mpr a3
          by_cases a4 : x.f1.length = 1
          · have q3 : ((x.f1.length : Int) == 1) = true := beq_iff_eq.mpr (by omega)
            have q4 : ((x.f1.length : Int) != 1) = false := bne_eq_false_iff_eq.mpr (by omega)
            have A4 := Aside0.mk a4
            clear a4
            go_wp2_with fail
            go_meet
            exact ⟨by simp [headB, kindB, b1, b2, A4.out], rfl⟩
          · have q3 : ((x.f1.length : Int) == 1) = false := beq_eq_false_iff_ne.mpr (by omega)
            have q4 : ((x.f1.length : Int) != 1) = true := bne_iff_ne.mpr (by omega)
            go_wp2_with fail
            go_meet
            exact ⟨by simp [headB, kindB, b1, b2, a3, a4], rfl⟩
  case rest =>
  obtain ⟨rfl, rfl⟩ := hcut
  cases hh : headB x with
  | false =>
    have HH := Aside0.mk hh
    clear hh
    go_wp2_with fail
    go_ret
    rw [HH.out, Bool.false_and]
    exact ⟨rfl, HB.out⟩
  | true =>
  have HH := Aside0.mk hh
  clear hh
  go_wp2_with fail
  go_loopg [3, 4] x.f1.length (fun kq a i wr => ∃ (k : Nat) (left : Int), k + kq = x.f1.length ∧ i = .int .i64 (k : Int) ∧ a = .int .i64 left ∧ 0 ≤ left ∧ left ≤ 1073741824 ∧ Aside0 (soundL (decide (x.f0 ≤ 3)) (x.f2.length : Int) x.f1 = soundL (decide (x.f0 ≤ 3)) left (x.f1.drop k)) ∧ wr = wc)
  case atStart => exact ⟨0, _, by omega, rfl, rfl, by omega, by omega, ⟨rfl⟩, rfl⟩
  case round =>
    obtain ⟨k, left, hk, rfl, rfl, hl0, hl1, HS, rfl⟩ := hrel
    cases gk with
    | zero =>
      have hlt : ¬ ((k : Int) < (x.f1.length : Int)) := by omega
      obtain rfl : k = x.f1.length := by omega
      rw [List.drop_length] at HS
      by_cases e : left = 0
      · have q1 : (left == 0) = true := beq_iff_eq.mpr e
        have E := Aside0.mk e
        clear e
        go_wp2_with fail
        go_ret
        rw [HH.out, HS.out]
        exact ⟨ret_b (by simp [soundL, E.out]), HB.out⟩
      · have q1 : (left == 0) = false := beq_eq_false_iff_ne.mpr e
        go_wp2_with fail
        go_ret
        rw [HH.out, HS.out]
        exact ⟨ret_b (by simp [soundL, e]), HB.out⟩
    | succ kq =>
      have hlt : (k : Int) < (x.f1.length : Int) := by omega
      have hlt1 : k < x.f1.length := by omega
      have k0 : (0 : Int) ≤ (k : Int) := by omega
      obtain ⟨a1, ea, hx⟩ := at_I H1.out k rfl hlt1
      subst ea
      rw [List.drop_eq_getElem_cons hlt1] at HS
      obtain ⟨j, hj⟩ : ∃ j, j = x.f1[k] := ⟨_, rfl⟩
      rw [← hj] at hx HS
      have hx' := cell_below HB.out hx
      clear hj hx
      by_cases c0 : j < 0
      · have hs := HS.out
        rw [soundL_neg c0] at hs
        have HF := Aside0.mk hs
        clear hs
        go_wp2_with fail
        go_ret
        rw [HF.out, Bool.and_false]
        exact ⟨rfl, HB.out⟩
      · by_cases c3 : x.f0 ≤ 3
        · by_cases c1 : left < j
          · have hs := HS.out
            rw [decide_eq_true c3, soundL_big c0 c1] at hs
            have HF := Aside0.mk hs
            clear hs
            go_wp2_with fail
            go_ret
            rw [HF.out, Bool.and_false]
            exact ⟨rfl, HB.out⟩
          · have hs := HS.out
            rw [decide_eq_true c3, soundL_next c0 c1] at hs
            have HF := Aside0.mk (show soundL (decide (x.f0 ≤ 3)) (x.f2.length : Int) x.f1 = soundL (decide (x.f0 ≤ 3)) (left - j) (x.f1.drop (k + 1)) by rw [decide_eq_true c3]; exact hs)
            clear hs
            go_wp2_with fail
            go_roundg kq
            case measure => omega
            case rel => exact ⟨k + 1, left - j, by omega, by go_num, by go_num, by omega, by omega, HF, rfl⟩
        · have hs := HS.out
          rw [decide_eq_false c3, soundL_part c0] at hs
          have HF := Aside0.mk (show soundL (decide (x.f0 ≤ 3)) (x.f2.length : Int) x.f1 = soundL (decide (x.f0 ≤ 3)) left (x.f1.drop (k + 1)) by rw [decide_eq_false c3]; exact hs)
          clear hs
          go_wp2_with fail
          go_roundg kq
          case measure => omega
          case rel => exact ⟨k + 1, left, by omega, by go_num, rfl, by omega, by omega, HF, rfl⟩
end Go.Proofs.YtmcbniobbbjdjaaDoor.Tree
namespace Go.Proofs.YtmcbniobbbjdjaaDoor.Tree
open Go.RowKit Go.Proofs.YtmcbniobbbjdjaaDoorW.PrintWords Go.Proofs.YtmcbniobbbjdjaaDoorW.PrintLast Go.Proofs.YtmcbniobbbjdjaaDoorW.PrintMore
set_option linter.unusedVariables false
set_option linter.unusedSimpArgs false
theorem sound_kind {x : Nd} (h : soundB x = true) : 1 ≤ x.f0 ∧ x.f0 ≤ 7 := by
  unfold soundB kindB at h
  simp only [Bool.and_eq_true, decide_eq_true_iff] at h
  exact h.1
theorem sound_sum {x : Nd} (h : soundB x = true) (h3 : x.f0 ≤ 3) : (∀ k ∈ x.f1, 0 ≤ k) ∧ x.f1.sum = (x.f2.length : Int) := by
  unfold soundB at h
  simp only [Bool.and_eq_true] at h
  rw [decide_eq_true h3] at h
  exact soundL_pts _ _ h.2.2
theorem sound_one {x : Nd} (h : soundB x = true) (h3 : x.f0 ≠ 3) : x.f1.length = 1 := by
  unfold soundB at h
  simp only [Bool.and_eq_true, Bool.or_eq_true, decide_eq_true_iff] at h
  exact h.2.1.resolve_left h3
theorem node_few {x : Nd} (h : soundB x = true) (h2 : x.f0 ≤ 2) : nodeOf ⟨x.f0, x.f2, [], []⟩ = x ∧ Canon ⟨x.f0, x.f2, [], []⟩ := by
  have hk := sound_kind h
  have hl := sound_one h (by omega)
  obtain ⟨_, hs⟩ := sound_sum h (by omega)
  obtain ⟨a, ha⟩ : ∃ a, x.f1 = [a] := by
    cases hx : x.f1 with
    | nil => rw [hx] at hl; cases hl
    | cons a t => rw [hx] at hl; cases t with
      | nil => exact ⟨a, rfl⟩
      | cons b t => simp at hl
  have haL : a = (x.f2.length : Int) := by rw [ha] at hs; simpa using hs
  refine ⟨?_, Canon.mk ⟨hk, fun _ => ⟨rfl, rfl⟩, fun h => ?_, fun h => ?_⟩ (fun p hp => by cases hp)⟩
  · unfold nodeOf
    rw [sizesOf_1 (by dsimp only; omega), lineOf_o (by dsimp only; omega)]
    dsimp only
    rw [← haL, ← ha]
  · exfalso; dsimp only at h; omega
  · exfalso; dsimp only at h; omega
theorem node_rings {x : Nd} (h : soundB x = true) (h3 : x.f0 = 3) : nodeOf ⟨x.f0, [], cuts x.f2 x.f1, []⟩ = x ∧ Canon ⟨x.f0, [], cuts x.f2 x.f1, []⟩ ∧ (cuts x.f2 x.f1).flatten = x.f2 ∧ (cuts x.f2 x.f1).map (fun r => (r.length : Int)) = x.f1 := by
  have hk := sound_kind h
  obtain ⟨p0, ps⟩ := sound_sum h (by omega)
  obtain ⟨c1, c2⟩ := cuts_spec x.f1 x.f2 p0 ps
  refine ⟨?_, Canon.mk ⟨hk, fun h => ?_, fun _ => ⟨rfl, rfl⟩, fun h => ?_⟩ (fun p hp => by cases hp), c1, c2⟩
  · unfold nodeOf
    rw [sizesOf_3 h3, lineOf_3 h3]
    unfold own
    dsimp only
    rw [c2, c1]
    rfl
  · exfalso; dsimp only at h; omega
  · exfalso; dsimp only at h; omega
theorem node_many {x : Nd} (h : soundB x = true) (h3 : 3 < x.f0) {ps : List Ge} (hps : ∀ p ∈ ps, Canon p) (hl : ps.length = arity x) : nodeOf ⟨x.f0, [], [], ps⟩ = x ∧ Canon ⟨x.f0, [], [], ps⟩ := by
  have hk := sound_kind h
  obtain ⟨a, ha, har⟩ := sound_many h h3
  have h2 := h
  unfold soundB at h2
  simp only [Bool.and_eq_true] at h2
  have h2 := h2.2.2
  rw [decide_eq_false (by omega), ha, soundL_part (by omega)] at h2
  unfold soundL at h2
  have hf2 : x.f2 = [] := List.length_eq_zero_iff.1 (by simpa using h2)
  refine ⟨?_, Canon.mk ⟨hk, fun h => ?_, fun h => ?_, fun _ => ⟨rfl, rfl⟩⟩ (fun p hp => hps p hp)⟩
  · unfold nodeOf
    rw [sizesOf_4 (by dsimp only; omega) (by dsimp only; omega) (by dsimp only; omega), lineOf_o (by dsimp only; omega)]
    dsimp only
    rw [hl, har, ← ha, ← hf2]
  · exfalso; dsimp only at h; omega
  · exfalso; dsimp only at h; omega
theorem made_not {x : Nd} (ps : List Ge) (hps : ∀ p ∈ ps, Canon p) (hlt : ps.length < arity x) {L rest : List Nd} (hL : L = (ps.map flatN).flatten ++ rest) (hno : ∀ g r, Canon g → rest = flatN g ++ r → False) :
    ∀ g r, Canon g → x :: L = flatN g ++ r → False := by
  intro g r hg he
  rw [flatN_eq, List.cons_append] at he
  obtain ⟨e1, e2⟩ := List.cons.inj he
  have ha : arity x = g.f3.length := by rw [e1]; exact (sound_node hg.at_).2
  have hi : ps.length < g.f3.length := by omega
  have hs : g.f3 = g.f3.take ps.length ++ (g.f3[ps.length] :: g.f3.drop (ps.length + 1)) := by
    conv => lhs; rw [← List.take_append_drop ps.length g.f3]
    rw [List.drop_eq_getElem_cons hi]
  rw [hL, hs, List.map_append, List.flatten_append, List.map_cons, List.flatten_cons, List.append_assoc, List.append_assoc] at e2
  obtain ⟨_, e3⟩ := flatNs_inj _ ps (g.f3.take ps.length) _ _ (Nat.le_refl _) hps (fun p hp => hg.part (List.mem_of_mem_take hp)) (by rw [List.length_take]; omega) e2
  exact hno _ _ (hg.part (List.getElem_mem hi)) e3
theorem node_any {x : Nd} (h : soundB x = true) {ps : List Ge} (hps : ∀ p ∈ ps, Canon p) (hl : ps.length = arity x) : ∃ g, Canon g ∧ nodeOf g = x ∧ g.f3 = ps := by
  by_cases k2 : x.f0 ≤ 2
  · obtain ⟨e, hc⟩ := node_few h k2
    have : ps = [] := List.length_eq_zero_iff.1 (by rw [hl, sound_few (by omega)])
    exact ⟨_, hc, e, this.symm⟩
  · by_cases k3 : x.f0 = 3
    · obtain ⟨e, hc, _⟩ := node_rings h k3
      have : ps = [] := List.length_eq_zero_iff.1 (by rw [hl, sound_few (by omega)])
      exact ⟨_, hc, e, this.symm⟩
    · obtain ⟨e, hc⟩ := node_many h (by omega) hps hl
      exact ⟨_, hc, e, rfl⟩
theorem growE_sound : ∀ (T : List Nd) (n j : Nat) (rest : List Nd), (∀ x ∈ T, soundB x = true) →
    (∃ (gs : List Ge) (r : List Nd), gs.length = n ∧ (∀ g ∈ gs, Canon g) ∧ T = (gs.map flatN).flatten ++ r) ∨ (∃ m, growE n j (T ++ rest) = growE (m + 1) (j + T.length) rest) := by
  intro T
  induction T with
  | nil =>
    intro n j rest _
    cases n with
    | zero => exact .inl ⟨[], [], rfl, (fun g h => by cases h), rfl⟩
    | succ n => exact .inr ⟨n, rfl⟩
  | cons x T ih =>
    intro n j rest hS
    cases n with
    | zero => exact .inl ⟨[], x :: T, rfl, (fun g h => by cases h), rfl⟩
    | succ n =>
      have hx := hS x List.mem_cons_self
      rcases ih (n + arity x) (j + 1) rest (fun y hy => hS y (List.mem_cons_of_mem _ hy)) with ⟨gs, r, hl, hc, he⟩ | ⟨m, hm⟩
      · obtain ⟨g, hg, hn, h3⟩ := node_any hx (ps := gs.take (arity x)) (fun p hp => hc p (List.mem_of_mem_take hp)) (by rw [List.length_take]; omega)
        refine .inl ⟨g :: gs.drop (arity x), r, by rw [List.length_cons, List.length_drop]; omega, fun p hp => ?_, ?_⟩
        · rcases List.mem_cons.1 hp with rfl | hp
          · exact hg
          · exact hc p (List.mem_of_mem_drop hp)
        · rw [List.map_cons, List.flatten_cons, flatN_eq, hn, h3, List.cons_append, List.cons_append, ← List.flatten_append, ← List.map_append, List.take_append_drop, he]
      · refine .inr ⟨m, ?_⟩
        rw [List.cons_append, growE_cons, if_pos hx, hm, List.length_cons]
        congr 1
        omega
/-- The error's number and place that both Grow tell. -/
def RGrowRes (w w' : World) (l : List Nd) (u : Value) (x : Option (Int × Int)) : Prop := match growE 1 0 l with
  | some i => u = noGe ∧ x = some ((i : Int), 154)
  | none => ∃ g, flatN g = l ∧ Canon g ∧ x = checkR g ∧ match checkR g with
    | some e => u = noGe
    | none => ∃ N, CopyOf N w w' u g
theorem RGrowRes.bad {w w' : World} {l : List Nd} {u : Value} {i : Nat} (h : growE 1 0 l = some i) (hu : u = noGe) : RGrowRes w w' l u (some ((i : Int), 154)) := by unfold RGrowRes; rw [h]; exact ⟨hu, rfl⟩
theorem grow_ends {l : List Nd} {g : Ge} {r : List Nd} {k : Nat} (hg : Canon g) (ht : l.take k = flatN g ++ r) (he : (flatN g).length < l.length) : growE 1 0 l = some (flatN g).length := by
  have hl : l = flatN g ++ (r ++ l.drop k) := by rw [← List.append_assoc, ← ht, List.take_append_drop]
  have hlen := congrArg List.length hl
  rw [List.length_append] at hlen
  rw [hl, growE_flat g hg 0 0]
  cases hr : r ++ l.drop k with
  | nil => rw [hr] at hlen; simp at hlen; omega
  | cons y t => simp [growE]
theorem grow_lacks {l : List Nd} {k : Nat} (hk : k ≤ l.length) (hS : ∀ x ∈ l.take k, soundB x = true) (hno : ∀ g r, Canon g → l.take k = flatN g ++ r → False) (hend : ∀ h : k < l.length, soundB l[k] = false) : growE 1 0 l = some k := by
  rcases growE_sound (l.take k) 1 0 (l.drop k) hS with ⟨gs, r, hl, hc, he⟩ | ⟨m, hm⟩
  · exfalso
    cases gs with
    | nil => cases hl
    | cons g t =>
      have : t = [] := List.length_eq_zero_iff.1 (by simpa using hl)
      subst this
      exact hno g r (hc g List.mem_cons_self) (by simpa using he)
  · rw [List.take_append_drop, List.length_take, Nat.min_eq_left hk, Nat.zero_add] at hm
    rw [hm]
    by_cases h : k < l.length
    · rw [List.drop_eq_getElem_cons h, growE_cons, if_neg (by rw [hend h]; decide)]
    · rw [List.drop_eq_nil_of_le (by omega)]
      rfl
end Go.Proofs.YtmcbniobbbjdjaaDoor.Tree
namespace Go.Proofs.YtmcbniobbbjdjaaDoor.Tree
open Go.RowKit Go.Proofs.YtmcbniobbbjdjaaDoorW.PrintWords Go.Proofs.YtmcbniobbbjdjaaDoorW.PrintLast Go.Proofs.YtmcbniobbbjdjaaDoorW.PrintMore
set_option linter.unusedVariables false
set_option linter.unusedSimpArgs false
theorem results_geom3 {fn : Func} {a c d : Tmp} (h : fn.results = #[.cell a 26, .tmp c, .tmp d]) (tmps : Array Value) (w : World) {b : Nat} {q0 q1 q2 q3 : Value} (hp : tmps.getD a undef = .pointer (some ⟨b, 0, none⟩)) (hb : w.heap[b]? = some (.cells #[q0, q1, q2, q3] 26 (0, 0))) : (results fn tmps).run Tryd.prog w = .ok (.tuple #[.agg #[q0, q1, q2, q3], tmps.getD c undef, tmps.getD d undef]) w := by
  rw [Array.getD_eq_getD_getElem?] at hp ⊢
  rw [Array.getD_eq_getD_getElem?]
  have hu := Tryd.underlying26
  have c0 : w.cell? ⟨b, 0, none⟩ = some q0 := (blk_cell hb 0).trans rfl
  have c1 : w.cell? ⟨b, 1, none⟩ = some q1 := (blk_cell hb 1).trans rfl
  have c2 : w.cell? ⟨b, 2, none⟩ = some q2 := (blk_cell hb 2).trans rfl
  have c3 : w.cell? ⟨b, 3, none⟩ = some q3 := (blk_cell hb 3).trans rfl
  simp [results, h, hp, go_sem, asAddr, c0, c1, c2, c3]
/-- The boxes of a walk of made: the answer, the result's, the node's. -/
structure MX (w W : World) (gr gn go_ : Nat) (nc : Array Value) (k : Int) (v1 v2 v3 : Value) : Prop where
  o : W.heap[go_]? = some (.cells #[.int .i64 k, v1, v2, v3] 26 (0, 0))
  r : W.heap[gr]? = some (.cells #[.int .i64 0, .slice none 0 0, .slice none 0 0, .slice none 0 0] 26 (0, 0))
  n : W.heap[gn]? = some (.cells nc 54 (0, 0))
  B : Below w.heap.size w W
section
variable {w W W' : World} {gr gn go_ : Nat} {nc : Array Value} {k : Int} {v1 v2 v3 : Value}
theorem MX.below (h : MX w W gr gn go_ nc k v1 v2 v3) (hb : Below W.heap.size W W') : MX w W' gr gn go_ nc k v1 v2 v3 := ⟨blk_below h.o hb, blk_below h.r hb, blk_below h.n hb, below_step h.B hb⟩
theorem MX.set1 (h : MX w W gr gn go_ nc k v1 v2 v3) (ho : w.heap.size ≤ gr ∧ gr < gn ∧ gn < go_) (u : Value) : MX w (W.setCell ⟨go_, 1, none⟩ u) gr gn go_ nc k u v2 v3 :=
  ⟨by simpa using blk_set h.o 1 u, blk_far h.r (p := ⟨go_, 1, none⟩) (by show gr ≠ go_; omega) _, blk_far h.n (p := ⟨go_, 1, none⟩) (by show gn ≠ go_; omega) _, h.B.setCell (p := ⟨go_, 1, none⟩) (by show _ ≤ go_; omega) _⟩
theorem MX.set2 (h : MX w W gr gn go_ nc k v1 v2 v3) (ho : w.heap.size ≤ gr ∧ gr < gn ∧ gn < go_) (u : Value) : MX w (W.setCell ⟨go_, 2, none⟩ u) gr gn go_ nc k v1 u v3 :=
  ⟨by simpa using blk_set h.o 2 u, blk_far h.r (p := ⟨go_, 2, none⟩) (by show gr ≠ go_; omega) _, blk_far h.n (p := ⟨go_, 2, none⟩) (by show gn ≠ go_; omega) _, h.B.setCell (p := ⟨go_, 2, none⟩) (by show _ ≤ go_; omega) _⟩
theorem MX.set3 (h : MX w W gr gn go_ nc k v1 v2 v3) (ho : w.heap.size ≤ gr ∧ gr < gn ∧ gn < go_) (u : Value) : MX w (W.setCell ⟨go_, 3, none⟩ u) gr gn go_ nc k v1 v2 u :=
  ⟨by simpa using blk_set h.o 3 u, blk_far h.r (p := ⟨go_, 3, none⟩) (by show gr ≠ go_; omega) _, blk_far h.n (p := ⟨go_, 3, none⟩) (by show gn ≠ go_; omega) _, h.B.setCell (p := ⟨go_, 3, none⟩) (by show _ ≤ go_; omega) _⟩
theorem MX.grown (h : MX w W gr gn go_ nc k v1 v2 v3) (ho : gr < gn ∧ gn < go_) {row : Option Nat} (hg : W.grownBy W' row) (hb : Below w.heap.size w W') (hr : ∀ j, row = some j → go_ < j) : MX w W' gr gn go_ nc k v1 v2 v3 :=
  ⟨blk_grown h.o hg (fun e => by have := hr _ e.symm; omega), blk_grown h.r hg (fun e => by have := hr _ e.symm; omega), blk_grown h.n hg (fun e => by have := hr _ e.symm; omega), hb⟩
end
def MadeRes (N : Nat) (w w' : World) (l : List Nd) (at_ : Nat) (u kv vb : Value) : Prop :=
  (vb = .bool true ∧ ∃ g r, Canon g ∧ l.drop at_ = flatN g ++ r ∧ kv = .int .i64 ((at_ + (flatN g).length : Nat) : Int) ∧ CopyOf N w w' u g) ∨ (vb = .bool false ∧ u = noGe ∧ kv = .int .i64 (l.length : Int) ∧ ∀ g r, Canon g → l.drop at_ = flatN g ++ r → False)
set_option maxRecDepth 100000 in
set_option maxHeartbeats 16000000 in
theorem made_calls (l : List Nd) (hS : ∀ x ∈ l, soundB x = true) (hW : ndsW l ≤ 2097152) (w0 : World) (A : Option Addr) (c : Nat) (hC : Kd.C kNd w0 A l.length l) (n : Nat) : ∀ (at_ : Nat) (w : World), Below w0.heap.size w0 w → at_ ≤ l.length → l.length - at_ ≤ n →
    Calls Tryd.prog 42 #[.slice A l.length c, .int .i64 (at_ : Int)] w fun e w' => ∃ (u kv vb : Value), e = .returned (.tuple #[u, kv, vb]) ∧ MadeRes n w w' l at_ u kv vb ∧ Below w.heap.size w w' := by
  have hl := nds_len l
  have HS := Aside0.mk hS
  have HC := Aside0.mk hC
  have HWL := Aside0.mk hW
  clear hS hC hW
  induction n with
  | zero =>
    intro at_ w hB hle hn
    obtain rfl : at_ = l.length := by omega
    have q1 : (l.length : Int) ≤ (l.length : Int) := Int.le_refl _
    have HX := Aside0.mk (show ∀ g r, Canon g → l.drop l.length = flatN g ++ r → False by
      intro g r _ h
      rw [List.drop_length, flatN_eq] at h
      cases h)
    clear hB hle hn
    have hu := Tryd.underlying26
    go_enter Tryd.func42, Tryd.ntmps42
    go_upto_region 2 with fail
    obtain ⟨gr, hgr⟩ : ∃ y, y = w.heap.size := ⟨_, rfl⟩
    obtain ⟨W0, hW0⟩ : ∃ y, y = w.alloc (.cells #[.int .i64 0, .slice none 0 0, .slice none 0 0, .slice none 0 0] 26) := ⟨_, rfl⟩
    rw [← hW0, ← hgr]
    have KR := Aside0.mk (show W0.heap[gr]? = some (.cells #[.int .i64 0, .slice none 0 0, .slice none 0 0, .slice none 0 0] 26 (0, 0)) by rw [hW0, hgr]; exact World.alloc_heap_new _ _)
    have HB0 := Aside0.mk (show Below w.heap.size w W0 by rw [hW0]; exact below_alloc (Below.refl _ _) _)
    have HGR := Aside0.mk (show w.heap.size ≤ gr by omega)
    clear hW0 hgr
    have r0 : W0.cell? ⟨gr, 0, none⟩ = some (.int .i64 0) := (blk_cell KR.out 0).trans rfl
    have t0 := blk_frozen KR.out 0
    have r1 : W0.cell? ⟨gr, 1, none⟩ = some (.slice none 0 0) := (blk_cell KR.out 1).trans rfl
    have t1 := blk_frozen KR.out 1
    have r2 : W0.cell? ⟨gr, 2, none⟩ = some (.slice none 0 0) := (blk_cell KR.out 2).trans rfl
    have t2 := blk_frozen KR.out 2
    have r3 : W0.cell? ⟨gr, 3, none⟩ = some (.slice none 0 0) := (blk_cell KR.out 3).trans rfl
    have t3 := blk_frozen KR.out 3
    go_wp2_with fail
    have bk := (blk_set (blk_set (blk_set (blk_set KR.out 0 (.int .i64 0)) 1 (.slice none 0 0)) 2 (.slice none 0 0)) 3 (.slice none 0 0))
    refine bodyPost_ret (results_geom3 (a := 4) (c := 5) (d := 6) (by rfl) _ _ (by rfl) (by simpa using bk)) rfl ?_
    refine ⟨_, _, _, rfl, ?_, ((((HB0.out.setCell (p := ⟨gr, 0, none⟩) HGR.out _).setCell (p := ⟨gr, 1, none⟩) HGR.out _).setCell (p := ⟨gr, 2, none⟩) HGR.out _).setCell (p := ⟨gr, 3, none⟩) HGR.out _)⟩
    refine .inr ⟨rfl, rfl, rfl, HX.out⟩
  | succ n ih =>
  intro at_ w hB hle hn
  by_cases hlt : l.length ≤ at_
  · obtain rfl : at_ = l.length := by omega
    have q1 : (l.length : Int) ≤ (l.length : Int) := Int.le_refl _
    have HX := Aside0.mk (show ∀ g r, Canon g → l.drop l.length = flatN g ++ r → False by
      intro g r _ h
      rw [List.drop_length, flatN_eq] at h
      cases h)
    clear hB hle hn ih hlt
    have hu := Tryd.underlying26
    go_enter Tryd.func42, Tryd.ntmps42
    go_upto_region 2 with fail
    obtain ⟨gr, hgr⟩ : ∃ y, y = w.heap.size := ⟨_, rfl⟩
    obtain ⟨W0, hW0⟩ : ∃ y, y = w.alloc (.cells #[.int .i64 0, .slice none 0 0, .slice none 0 0, .slice none 0 0] 26) := ⟨_, rfl⟩
    rw [← hW0, ← hgr]
    have KR := Aside0.mk (show W0.heap[gr]? = some (.cells #[.int .i64 0, .slice none 0 0, .slice none 0 0, .slice none 0 0] 26 (0, 0)) by rw [hW0, hgr]; exact World.alloc_heap_new _ _)
    have HB0 := Aside0.mk (show Below w.heap.size w W0 by rw [hW0]; exact below_alloc (Below.refl _ _) _)
    have HGR := Aside0.mk (show w.heap.size ≤ gr by omega)
    clear hW0 hgr
    have r0 : W0.cell? ⟨gr, 0, none⟩ = some (.int .i64 0) := (blk_cell KR.out 0).trans rfl
    have t0 := blk_frozen KR.out 0
    have r1 : W0.cell? ⟨gr, 1, none⟩ = some (.slice none 0 0) := (blk_cell KR.out 1).trans rfl
    have t1 := blk_frozen KR.out 1
    have r2 : W0.cell? ⟨gr, 2, none⟩ = some (.slice none 0 0) := (blk_cell KR.out 2).trans rfl
    have t2 := blk_frozen KR.out 2
    have r3 : W0.cell? ⟨gr, 3, none⟩ = some (.slice none 0 0) := (blk_cell KR.out 3).trans rfl
    have t3 := blk_frozen KR.out 3
    go_wp2_with fail
    have bk := (blk_set (blk_set (blk_set (blk_set KR.out 0 (.int .i64 0)) 1 (.slice none 0 0)) 2 (.slice none 0 0)) 3 (.slice none 0 0))
    refine bodyPost_ret (results_geom3 (a := 4) (c := 5) (d := 6) (by rfl) _ _ (by rfl) (by simpa using bk)) rfl ?_
    refine ⟨_, _, _, rfl, ?_, ((((HB0.out.setCell (p := ⟨gr, 0, none⟩) HGR.out _).setCell (p := ⟨gr, 1, none⟩) HGR.out _).setCell (p := ⟨gr, 2, none⟩) HGR.out _).setCell (p := ⟨gr, 3, none⟩) HGR.out _)⟩
    refine .inr ⟨rfl, rfl, rfl, HX.out⟩
  have hlt1 : at_ < l.length := by omega
  have q1 : ¬ ((l.length : Int) ≤ (at_ : Int)) := by omega
  have q2 : (at_ : Int) < (l.length : Int) := by omega
  have q3 : (0 : Int) ≤ (at_ : Int) := by omega
  have hat : (at_ : Int) + 1 ≤ 2097153 := by have := HWL.out; omega
  have IH := Aside0.mk ih
  have HB := Aside0.mk hB
  have hu := Tryd.underlying26
  have hun := Tryd.underlying54
  have hmx : Tryd.prog.follows .mixedOrders = true := by kernel_rfl
  obtain ⟨a1, S1, s1, L1, l1, e1, p0, p1, p2, i1, j1, i2, j2⟩ := at_Nd HC.out (at_ : Int) (by omega) (by omega)
  subst e1
  rw [rd_Nd_at _ _ hlt1, Int.toNat_natCast] at p0 p1 p2
  rw [rd_Nd_at _ _ hlt1] at i1 j1 i2 j2
  have hso := HS.out l[at_] (List.getElem_mem hlt1)
  have hmm := nds_mem (List.getElem_mem hlt1)
  have hdr := List.drop_eq_getElem_cons hlt1
  obtain ⟨x, hx⟩ : ∃ x, x = l[at_] := ⟨_, rfl⟩
  rw [← hx] at p0 p1 p2 i1 j1 i2 j2 hmm hdr hso
  obtain ⟨hm1, hm2⟩ : x.f1.length ≤ 2097152 ∧ x.f2.length ≤ 2097152 := by have := HWL.out; omega
  have HSO := Aside0.mk hso
  have HDR := Aside0.mk hdr
  have hkk := sound_kind hso
  have hb0 : Below w.heap.size w (w.alloc (.cells #[.int .i64 0, .slice none 0 0, .slice none 0 0, .slice none 0 0] 26)) := below_alloc (Below.refl _ _) _
  have p0' := cell_below hb0 (cell_below HB.out p0)
  have p1' := cell_below hb0 (cell_below HB.out p1)
  have p2' := cell_below hb0 (cell_below HB.out p2)
  have J1 := Aside0.mk j1
  have J2 := Aside0.mk j2
  have I2 := Aside0.mk i2
  clear hx p0 p1 p2 i1 j1 i2 j2 hB ih hmm hdr hso hle hb0
  go_enter Tryd.func42, Tryd.ntmps42
  go_upto_region 4 with fail
  obtain ⟨gr, hgr⟩ : ∃ y, y = w.heap.size := ⟨_, rfl⟩
  obtain ⟨gn, hgn⟩ : ∃ y, y = w.heap.size + 1 := ⟨_, rfl⟩
  obtain ⟨W1, hW1⟩ : ∃ y, y = (w.alloc (.cells #[.int .i64 0, .slice none 0 0, .slice none 0 0, .slice none 0 0] 26)).alloc (.cells #[.int .i64 x.f0, .slice S1 x.f1.length s1, .slice L1 x.f2.length l1] 54) := ⟨_, rfl⟩
  rw [← hW1, ← hgn, ← hgr]
  have kr : W1.heap[gr]? = some (.cells #[.int .i64 0, .slice none 0 0, .slice none 0 0, .slice none 0 0] 26 (0, 0)) := by rw [hW1, hgr]; exact blk_alloc (World.alloc_heap_new _ _) _
  have kn : W1.heap[gn]? = some (.cells #[.int .i64 x.f0, .slice S1 x.f1.length s1, .slice L1 x.f2.length l1] 54 (0, 0)) := by
    rw [hW1, hgn]
    have h := World.alloc_heap_new (w.alloc (.cells #[.int .i64 0, .slice none 0 0, .slice none 0 0, .slice none 0 0] 26)) (.cells #[.int .i64 x.f0, .slice S1 x.f1.length s1, .slice L1 x.f2.length l1] 54)
    simpa using h
  have hb1 : Below w.heap.size w W1 := by rw [hW1]; exact below_alloc (below_alloc (Below.refl _ _) _) _
  have hord : w.heap.size ≤ gr ∧ gr < gn ∧ gn < W1.heap.size := by
    have := blk_lt kn
    omega
  clear hW1 hgn hgr p0' p1' p2'
  have n0 : W1.cell? ⟨gn, 0, none⟩ = some (.int .i64 x.f0) := (blk_cell kn 0).trans rfl
  go_upto_region 5 with fail
  obtain ⟨go_, hgo⟩ : ∃ y, y = W1.heap.size := ⟨_, rfl⟩
  obtain ⟨W3, hW3⟩ : ∃ y, y = W1.alloc (.cells #[.int .i64 x.f0, .slice none 0 0, .slice none 0 0, .slice none 0 0] 26) := ⟨_, rfl⟩
  rw [← hW3, ← hgo]
  have RX := Aside0.mk (show MX w W3 gr gn go_ #[.int .i64 x.f0, .slice S1 x.f1.length s1, .slice L1 x.f2.length l1] x.f0 (.slice none 0 0) (.slice none 0 0) (.slice none 0 0) by
    have hb := below_alloc (Below.refl W1.heap.size W1) (.cells #[.int .i64 x.f0, .slice none 0 0, .slice none 0 0, .slice none 0 0] 26)
    rw [hW3, hgo]
    exact ⟨World.alloc_heap_new _ _, blk_alloc kr _, blk_alloc kn _, below_step hb1 hb⟩)
  have HORD := Aside0.mk (show w.heap.size ≤ gr ∧ gr < gn ∧ gn < go_ by omega)
  have HSZ := Aside0.mk (show go_ < W3.heap.size from blk_lt RX.out.o)
  clear hW3 hgo kn kr hb1 n0 hord
  have n0 : W3.cell? ⟨gn, 0, none⟩ = some (.int .i64 x.f0) := (blk_cell RX.out.n 0).trans rfl
  by_cases k2 : x.f0 ≤ 2
  · have n2 : W3.cell? ⟨gn, 2, none⟩ = some (.slice L1 x.f2.length l1) := (blk_cell RX.out.n 2).trans rfl
    have g1 : W3.cell? ⟨go_, 1, none⟩ = some (.slice none 0 0) := (blk_cell RX.out.o 1).trans rfl
    obtain ⟨hnd, hcan⟩ := node_few HSO.out k2
    have HND := Aside0.mk hnd
    have HCAN := Aside0.mk hcan
    have K2 := Aside0.mk k2
    clear hnd hcan
    go_upto_region 8 with ((with_reducible refine gate_builtin (b := .append) (xs := #[.tmp 35, .tmp 37]) rfl ?_); at_builtin; refine Kd.R_append_rows kPt (w0 := W3) W3.heap.size rfl (.tmp 35) (.tmp 37) 22 65 (.agg #[.int .u64 0, .int .u64 0]) 16 rfl Tryd.underlying22 infoPt rfl (by decide) (by omega) (.slice none 0 0) [] x.f2 _ _ _ (fun _ => True) (fun _ => False) rfl rfl ?aO ?aR (fun _ _ h => h) (fun _ h => h.elim) ?aF ?aB ?aS ?aL ?_; (case aO => exact Kd.R_nil _ _ _ _ _); (case aR => exact Kd.C_below J2.out (below_step HB.out RX.out.B)); (case aF => exact fun _ _ => trivial); (case aB => exact Below.refl _ _); (case aS => exact Nat.le_refl _); (case aL => show (0 + x.f2.length) * 16 ≤ _; omega); intro v4 w4 ho hb4 hg4 hat4; rw [List.nil_append] at ho; obtain ⟨A4, c4, e4⟩ := Kd.R_slice ho; subst e4; have rx := RX.out.below hb4; have hs1 : w4.cell? ⟨go_, 1, none⟩ = some (.slice none 0 0) := (blk_cell rx.o 1).trans rfl; have hf1 := blk_frozen rx.o 1; clear RX n2 g1 n0 hg4 hat4)
    obtain ⟨W5, hW5⟩ : ∃ y, y = w4.setCell ⟨go_, 1, none⟩ (.slice A4 x.f2.length c4) := ⟨_, rfl⟩
    rw [← hW5]
    have RX := Aside0.mk (show MX w W5 gr gn go_ #[.int .i64 x.f0, .slice S1 x.f1.length s1, .slice L1 x.f2.length l1] x.f0 (.slice A4 x.f2.length c4) (.slice none 0 0) (.slice none 0 0) by rw [hW5]; exact rx.set1 (by have := HORD.out; omega) _)
    have HR := Aside0.mk (show Kd.R kPt 65 W5 w.heap.size (fun k => go_ < k) (.slice A4 x.f2.length c4) x.f2 by
      rw [hW5]
      have hz := HSZ.out
      exact Kd.R_far (p := ⟨go_, 1, none⟩) (Kd.R_lower (Kd.R_mono (Kd.R_bound ho) (fun k h => by have := h.2.1; omega)) (by have := HORD.out; omega)) (fun k h => by show k ≠ go_; omega) _)
    clear hW5 rx ho hb4 hs1 hf1
    have HNS := Aside0.mk (Kd.S_nil (Kd.slice 65 kPt) 22 W5 w.heap.size (fun _ => False))
    have HNP := Aside0.mk (Kd.S_nil (kSp n) 26 W5 w.heap.size (fun _ => False))
    have o0 : W5.cell? ⟨go_, 0, none⟩ = some (.int .i64 x.f0) := (blk_cell RX.out.o 0).trans rfl
    have o1 : W5.cell? ⟨go_, 1, none⟩ = some (.slice A4 x.f2.length c4) := (blk_cell RX.out.o 1).trans rfl
    have o2 : W5.cell? ⟨go_, 2, none⟩ = some (.slice none 0 0) := (blk_cell RX.out.o 2).trans rfl
    have o3 : W5.cell? ⟨go_, 3, none⟩ = some (.slice none 0 0) := (blk_cell RX.out.o 3).trans rfl
    have r0 : W5.cell? ⟨gr, 0, none⟩ = some (.int .i64 0) := (blk_cell RX.out.r 0).trans rfl
    have t0 := blk_frozen RX.out.r 0
    have r1 : W5.cell? ⟨gr, 1, none⟩ = some (.slice none 0 0) := (blk_cell RX.out.r 1).trans rfl
    have t1 := blk_frozen RX.out.r 1
    have r2 : W5.cell? ⟨gr, 2, none⟩ = some (.slice none 0 0) := (blk_cell RX.out.r 2).trans rfl
    have t2 := blk_frozen RX.out.r 2
    have r3 : W5.cell? ⟨gr, 3, none⟩ = some (.slice none 0 0) := (blk_cell RX.out.r 3).trans rfl
    have t3 := blk_frozen RX.out.r 3
    go_wp2_with fail
    obtain ⟨hwr, hord1, hord2⟩ := HORD.out
    have bk := (blk_set (blk_set (blk_set (blk_set RX.out.r 0 (.int .i64 x.f0)) 1 (.slice A4 x.f2.length c4)) 2 (.slice none 0 0)) 3 (.slice none 0 0))
    refine bodyPost_ret (results_geom3 (a := 4) (c := 5) (d := 6) (by rfl) _ _ (by rfl) (by simpa using bk)) rfl ?_
    refine ⟨_, _, _, rfl, ?_, ((((RX.out.B.setCell (p := ⟨gr, 0, none⟩) hwr _).setCell (p := ⟨gr, 1, none⟩) hwr _).setCell (p := ⟨gr, 2, none⟩) hwr _).setCell (p := ⟨gr, 3, none⟩) hwr _)⟩
    refine .inl ⟨rfl, ⟨x.f0, x.f2, [], []⟩, l.drop (at_ + 1), HCAN.out, ?_, ?_, ⟨[.int .i64 x.f0, .slice A4 x.f2.length c4, .slice none 0 0, .slice none 0 0], rfl, ?_⟩⟩
    · rw [HDR.out, flatN_eq, HND.out]
      rfl
    · rw [flatN_eq]
      rfl
    rw [kSp_M]
    exact ⟨_, _, _, (fun k => go_ < k), (fun _ => False), (fun _ => False), rfl, fun k h => by omega, fun _ h => h.elim, fun _ h => h.elim, fun _ _ h => h, fun _ _ h => h, fun _ _ h => h, (Kd.R_far (p := ⟨gr, 3, none⟩) (Kd.R_far (p := ⟨gr, 2, none⟩) (Kd.R_far (p := ⟨gr, 1, none⟩) (Kd.R_far (p := ⟨gr, 0, none⟩) HR.out (fun k h => by show k ≠ gr; omega) _) (fun k h => by show k ≠ gr; omega) _) (fun k h => by show k ≠ gr; omega) _) (fun k h => by show k ≠ gr; omega) _), (Kd.S_far (p := ⟨gr, 3, none⟩) (Kd.S_far (p := ⟨gr, 2, none⟩) (Kd.S_far (p := ⟨gr, 1, none⟩) (Kd.S_far (p := ⟨gr, 0, none⟩) HNS.out (fun _ h => h.elim) _) (fun _ h => h.elim) _) (fun _ h => h.elim) _) (fun _ h => h.elim) _), (Kd.S_far (p := ⟨gr, 3, none⟩) (Kd.S_far (p := ⟨gr, 2, none⟩) (Kd.S_far (p := ⟨gr, 1, none⟩) (Kd.S_far (p := ⟨gr, 0, none⟩) HNP.out (fun _ h => h.elim) _) (fun _ h => h.elim) _) (fun _ h => h.elim) _) (fun _ h => h.elim) _)⟩
  · by_cases k3 : x.f0 = 3
    · obtain ⟨hnd, hcan, hfl, hsz⟩ := node_rings HSO.out k3
      have K3 := Aside0.mk k3
      have k3a : (x.f0 == 3) = true := beq_iff_eq.mpr k3
      obtain ⟨R, hR⟩ : ∃ R, R = cuts x.f2 x.f1 := ⟨_, rfl⟩
      rw [← hR] at hnd hcan hfl hsz
      have HRL := Aside0.mk (show R.length = x.f1.length by rw [← hsz, List.length_map])
      have HND := Aside0.mk hnd
      have HCAN := Aside0.mk hcan
      have HFL := Aside0.mk hfl
      have HSS := Aside0.mk hsz
      have HUP := Aside0.mk (show ∀ k, upTo R k ≤ x.f2.length by intro k; have h := upTo_le R k; rw [hfl] at h; exact h)
      clear hR hnd hcan hfl hsz k3
      have n1 : W3.cell? ⟨gn, 1, none⟩ = some (.slice S1 x.f1.length s1) := (blk_cell RX.out.n 1).trans rfl
      go_wp2_with fail
      go_loopg [9, 10] x.f1.length (fun kq q i wr => ∃ (j : Nat) (v2 : Value), j + kq = x.f1.length ∧ i = .int .i64 (j : Int) ∧ q = .int .i64 ((upTo R j : Nat) : Int) ∧ Aside0 (MX w wr gr gn go_ #[.int .i64 x.f0, .slice S1 x.f1.length s1, .slice L1 x.f2.length l1] x.f0 (.slice none 0 0) v2 (.slice none 0 0)) ∧ Aside0 (Kd.S (Kd.slice 65 kPt) 22 wr w.heap.size (fun k => go_ < k) v2 (R.take j)))
      case atStart => exact ⟨0, _, by omega, rfl, by simp [upTo], RX, ⟨Kd.S_nil _ _ _ _ _⟩⟩
      case round =>
        clear RX n1 n0
        obtain ⟨j, v2, hj, rfl, rfl, RX, HSV⟩ := hrel
        have n1 : wr.cell? ⟨gn, 1, none⟩ = some (.slice S1 x.f1.length s1) := (blk_cell RX.out.n 1).trans rfl
        cases gk with
        | zero =>
          have hlt : ¬ ((j : Int) < (x.f1.length : Int)) := by omega
          obtain rfl : j = R.length := by have := HRL.out; omega
          rw [List.take_length] at HSV
          obtain ⟨A4, c4, e4⟩ := Kd.S_slice HSV.out
          subst e4
          have HNR := Aside0.mk (Kd.R_nil kPt 65 wr w.heap.size (fun _ => False))
          have HNP := Aside0.mk (Kd.S_nil (kSp n) 26 wr w.heap.size (fun _ => False))
          have o0 : wr.cell? ⟨go_, 0, none⟩ = some (.int .i64 x.f0) := (blk_cell RX.out.o 0).trans rfl
          have o1 : wr.cell? ⟨go_, 1, none⟩ = some (.slice none 0 0) := (blk_cell RX.out.o 1).trans rfl
          have o2 : wr.cell? ⟨go_, 2, none⟩ = some (.slice A4 R.length c4) := (blk_cell RX.out.o 2).trans rfl
          have o3 : wr.cell? ⟨go_, 3, none⟩ = some (.slice none 0 0) := (blk_cell RX.out.o 3).trans rfl
          have r0 : wr.cell? ⟨gr, 0, none⟩ = some (.int .i64 0) := (blk_cell RX.out.r 0).trans rfl
          have t0 := blk_frozen RX.out.r 0
          have r1 : wr.cell? ⟨gr, 1, none⟩ = some (.slice none 0 0) := (blk_cell RX.out.r 1).trans rfl
          have t1 := blk_frozen RX.out.r 1
          have r2 : wr.cell? ⟨gr, 2, none⟩ = some (.slice none 0 0) := (blk_cell RX.out.r 2).trans rfl
          have t2 := blk_frozen RX.out.r 2
          have r3 : wr.cell? ⟨gr, 3, none⟩ = some (.slice none 0 0) := (blk_cell RX.out.r 3).trans rfl
          have t3 := blk_frozen RX.out.r 3
          go_wp2_with fail
          obtain ⟨hwr, hord1, hord2⟩ := HORD.out
          have bk := (blk_set (blk_set (blk_set (blk_set RX.out.r 0 (.int .i64 x.f0)) 1 (.slice none 0 0)) 2 (.slice A4 R.length c4)) 3 (.slice none 0 0))
          refine bodyPost_ret (results_geom3 (a := 4) (c := 5) (d := 6) (by rfl) _ _ (by rfl) (by simpa using bk)) rfl ?_
          refine ⟨_, _, _, rfl, ?_, ((((RX.out.B.setCell (p := ⟨gr, 0, none⟩) hwr _).setCell (p := ⟨gr, 1, none⟩) hwr _).setCell (p := ⟨gr, 2, none⟩) hwr _).setCell (p := ⟨gr, 3, none⟩) hwr _)⟩
          refine .inl ⟨rfl, ⟨x.f0, [], R, []⟩, l.drop (at_ + 1), HCAN.out, ?_, ?_, ⟨[.int .i64 x.f0, .slice none 0 0, .slice A4 R.length c4, .slice none 0 0], rfl, ?_⟩⟩
          · rw [HDR.out, flatN_eq, HND.out]
            rfl
          · rw [flatN_eq]
            rfl
          rw [kSp_M]
          exact ⟨_, _, _, (fun _ => False), (fun k => go_ < k), (fun _ => False), rfl, fun _ h => h.elim, fun k h => by omega, fun _ h => h.elim, fun _ h => h.elim, fun _ h => h.elim, fun _ _ h => h, (Kd.R_far (p := ⟨gr, 3, none⟩) (Kd.R_far (p := ⟨gr, 2, none⟩) (Kd.R_far (p := ⟨gr, 1, none⟩) (Kd.R_far (p := ⟨gr, 0, none⟩) HNR.out (fun _ h => h.elim) _) (fun _ h => h.elim) _) (fun _ h => h.elim) _) (fun _ h => h.elim) _), (Kd.S_far (p := ⟨gr, 3, none⟩) (Kd.S_far (p := ⟨gr, 2, none⟩) (Kd.S_far (p := ⟨gr, 1, none⟩) (Kd.S_far (p := ⟨gr, 0, none⟩) HSV.out (fun k h => by show k ≠ gr; omega) _) (fun k h => by show k ≠ gr; omega) _) (fun k h => by show k ≠ gr; omega) _) (fun k h => by show k ≠ gr; omega) _), (Kd.S_far (p := ⟨gr, 3, none⟩) (Kd.S_far (p := ⟨gr, 2, none⟩) (Kd.S_far (p := ⟨gr, 1, none⟩) (Kd.S_far (p := ⟨gr, 0, none⟩) HNP.out (fun _ h => h.elim) _) (fun _ h => h.elim) _) (fun _ h => h.elim) _) (fun _ h => h.elim) _)⟩
        | succ kq =>
          have hj2 : j < R.length := by have := HRL.out; omega
          have hlt : (j : Int) < (x.f1.length : Int) := by omega
          have j0 : (0 : Int) ≤ (j : Int) := by omega
          obtain ⟨a2, e2, hx⟩ := at_I J1.out j rfl (by omega)
          subst e2
          have hv : x.f1[j]'(by omega) = ((R[j].length : Nat) : Int) := by
            have h : x.f1[j]? = (R.map fun r => (r.length : Int))[j]? := by rw [HSS.out]
            rw [List.getElem?_eq_getElem (by omega), List.getElem?_map, List.getElem?_eq_getElem hj2] at h
            injection h
          rw [hv] at hx
          have HRT := Aside0.mk (List.take_succ_eq_append_getElem hj2)
          have hus := upTo_succ R j hj2
          have hup := HUP.out (j + 1)
          have hdr : (x.f2.drop (upTo R j)).take R[j].length = R[j] := by
            rw [← HFL.out]
            have h1 : R.flatten = (R.take j).flatten ++ (R[j] ++ (R.drop (j + 1)).flatten) := by
              rw [← List.flatten_cons, ← List.drop_eq_getElem_cons hj2, ← List.flatten_append, List.take_append_drop]
            have h2 : upTo R j = (R.take j).flatten.length := rfl
            rw [h1, h2, List.drop_left, List.take_left]
          obtain ⟨r, hr⟩ : ∃ r, r = R[j] := ⟨_, rfl⟩
          rw [← hr] at hx HRT hus hdr
          obtain ⟨q, hq⟩ : ∃ q, q = upTo R j := ⟨_, rfl⟩
          rw [← hq] at hus hdr ⊢
          have HUS := Aside0.mk hus
          have hqr : q + r.length ≤ x.f2.length := by omega
          have i2 := I2.out
          have HRC0 := Aside0.mk (show Kd.C kPt w0 (if l1 = q then L1 else L1.map (·.add (q * 2))) r.length r by
            have h := Kd.C_drop (m := q) (c := l1) J2.out (by omega) i2
            have h2 := Kd.C_take (m := r.length) h (by rw [List.length_drop]; omega)
            rw [hdr] at h2
            exact h2)
          have HX2 := Aside0.mk hx
          have hx' := cell_below (below_step HB.out RX.out.B) hx
          have g1 : (0 : Int) ≤ (q : Int) := by omega
          have g2 : (q : Int) + (r.length : Int) ≤ (l1 : Int) := by omega
          have g3 : (q : Int) ≤ (q : Int) + (r.length : Int) := by omega
          have g4 : (q : Int) + (r.length : Int) ≤ 2097152 := by omega
          have g7 : IntKind.i64.wrap ((q : Int) + (r.length : Int)) = (q : Int) + (r.length : Int) := by rw [IntKind.wrap_i64]; omega
          have g5 : ((q : Int) + (r.length : Int)).toNat - q = r.length := by omega
          have g6 : q ≤ ((q : Int) + (r.length : Int)).toNat := by omega
          clear hr hq hv hus hup hdr hx
          cases L1 with
          | none =>
            have hz0 : r.length = 0 := by
              obtain ⟨_, _, h⟩ := J2.out
              rcases Nat.eq_zero_or_pos x.f2.length with h0 | h0
              · omega
              · obtain ⟨ad, e, _⟩ := h h0; cases e
            have HRC := Aside0.mk (show Kd.C kPt w0 none r.length r by
              have h := HRC0.out
              rwa [show (if l1 = q then none else (none : Option Addr).map (·.add (q * 2))) = none by split <;> rfl] at h)
            clear HRC0 hz0
            go_wp2_with fail
            have q0 := RX.out.below (below_drew (Below.refl _ _))
            have s0 := Kd.S_drew HSV.out
            have hszd : wr.drew.heap.size = wr.heap.size := rfl
            have hgz : go_ < wr.drew.heap.size := blk_lt q0.o
            refine start_ (n := 19) (S := fun w' => w'.cell? ⟨go_, 2, none⟩ = some v2 ∧ w'.cell? ⟨gn, 2, none⟩ = some (.slice none x.f2.length l1) ∧ w'.cell? ⟨gn, 1, none⟩ = some (.slice (some a2) x.f1.length s1) ∧ w'.cell? (a2.add j) = some (.int .i64 (r.length : Int)) ∧ True) (ds := [18]) #[false, false, false, false, false, false, false, false, false, false, false, false, false, false, false, false, false, false, false] hmx rfl rfl ⟨(blk_cell q0.o 2).trans rfl, (blk_cell q0.n 2).trans rfl, (blk_cell q0.n 1).trans rfl, cell_below (below_step HB.out q0.B) HX2.out, trivial⟩ (fun hHeld => ?_)
            clear RX HSV hszd n1
            generalize wr.drew = Wb at q0 s0 hgz hHeld ⊢
            (refine pure_ (i := 0) (N := some 52) (v := ?_) (a' := ?_) #[true, false, false, false, false, false, false, false, false, false, false, false, false, false, false, false, false, false, false] rfl rfl (by kernel_rfl) (fun _ _ _ h => h) (Or.inl ⟨by rfl, ?_⟩) ?_ ?_; rotate_left; (focus (intro w'_; go_simp; with_reducible rfl)); rotate_left; (focus (simp only [Act.put, List.setIfInBounds_toArray, List.set_cons_zero, List.set_cons_succ]; rfl)))
            (refine pure_ (i := 3) (N := some 55) (v := ?_) (a' := ?_) #[true, false, false, true, false, false, false, false, false, false, false, false, false, false, false, false, false, false, false] rfl rfl (by kernel_rfl) (fun _ _ _ h => h) (Or.inl ⟨by rfl, ?_⟩) ?_ ?_; rotate_left; (focus (intro w'_; go_simp; with_reducible rfl)); rotate_left; (focus (simp only [Act.put, List.setIfInBounds_toArray, List.set_cons_zero, List.set_cons_succ]; rfl)))
            (refine pure_ (i := 5) (N := some 57) (v := ?_) (a' := ?_) #[true, false, false, true, false, true, false, false, false, false, false, false, false, false, false, false, false, false, false] rfl rfl (by kernel_rfl) (fun _ _ _ h => h) (Or.inl ⟨by rfl, ?_⟩) ?_ ?_; rotate_left; (focus (intro w'_; go_simp; with_reducible rfl)); rotate_left; (focus (simp only [Act.put, List.setIfInBounds_toArray, List.set_cons_zero, List.set_cons_succ]; rfl)))
            (refine pure_ (i := 6) (N := some 58) (v := ?_) (a' := ?_) #[true, false, false, true, false, true, true, false, false, false, false, false, false, false, false, false, false, false, false] rfl rfl (by kernel_rfl) (fun _ _ _ h => h) (Or.inl ⟨by rfl, ?_⟩) ?_ ?_; rotate_left; (focus (intro w'_; go_simp; with_reducible rfl)); rotate_left; (focus (simp only [Act.put, List.setIfInBounds_toArray, List.set_cons_zero, List.set_cons_succ]; rfl)))
            (refine pure_ (i := 7) (N := some 59) (v := ?_) (a' := ?_) #[true, false, false, true, false, true, true, true, false, false, false, false, false, false, false, false, false, false, false] rfl rfl (by kernel_rfl) (fun _ _ _ h => h) (Or.inl ⟨by rfl, ?_⟩) ?_ ?_; rotate_left; (focus (intro w'_; go_simp; with_reducible rfl)); rotate_left; (focus (simp only [Act.put, List.setIfInBounds_toArray, List.set_cons_zero, List.set_cons_succ]; rfl)))
            (refine pure_ (i := 9) (N := some 61) (v := ?_) (a' := ?_) #[true, false, false, true, false, true, true, true, false, true, false, false, false, false, false, false, false, false, false] rfl rfl (by kernel_rfl) (fun _ _ _ h => h) (Or.inl ⟨by rfl, ?_⟩) ?_ ?_; rotate_left; (focus (intro w'_; go_simp; with_reducible rfl)); rotate_left; (focus (simp only [Act.put, List.setIfInBounds_toArray, List.set_cons_zero, List.set_cons_succ]; rfl)))
            (refine take_ (i := 1) (N := some 53) (v := ?_) (a' := ?_) #[true, true, false, true, false, true, true, true, false, true, false, false, false, false, false, false, false, false, false] rfl rfl (by kernel_rfl) (fun _ _ _ h => h) (Or.inl ⟨by rfl, ?_⟩) hHeld ?_ ?_; rotate_left; (focus (intro w'_ hs_; (repeat obtain ⟨_, hs_⟩ := hs_); go_simp; with_reducible rfl)); rotate_left; (focus (simp only [Act.put, List.setIfInBounds_toArray, List.set_cons_zero, List.set_cons_succ]; rfl)))
            (refine take_ (i := 4) (N := some 56) (v := ?_) (a' := ?_) #[true, true, false, true, true, true, true, true, false, true, false, false, false, false, false, false, false, false, false] rfl rfl (by kernel_rfl) (fun _ _ _ h => h) (Or.inl ⟨by rfl, ?_⟩) hHeld ?_ ?_; rotate_left; (focus (intro w'_ hs_; (repeat obtain ⟨_, hs_⟩ := hs_); go_simp; with_reducible rfl)); rotate_left; (focus (simp only [Act.put, List.setIfInBounds_toArray, List.set_cons_zero, List.set_cons_succ]; rfl)))
            (refine take_ (i := 8) (N := some 60) (v := ?_) (a' := ?_) #[true, true, false, true, true, true, true, true, true, true, false, false, false, false, false, false, false, false, false] rfl rfl (by kernel_rfl) (fun _ _ _ h => h) (Or.inl ⟨by rfl, ?_⟩) hHeld ?_ ?_; rotate_left; (focus (intro w'_ hs_; (repeat obtain ⟨_, hs_⟩ := hs_); go_simp; with_reducible rfl)); rotate_left; (focus (simp only [Act.put, List.setIfInBounds_toArray, List.set_cons_zero, List.set_cons_succ]; rfl)))
            (refine pure_ (i := 10) (N := some 62) (v := ?_) (a' := ?_) #[true, true, false, true, true, true, true, true, true, true, true, false, false, false, false, false, false, false, false] rfl rfl (by kernel_rfl) (fun _ _ _ h => h) (Or.inl ⟨by rfl, ?_⟩) ?_ ?_; rotate_left; (focus (intro w'_; go_simp; with_reducible rfl)); rotate_left; (focus (simp only [Act.put, List.setIfInBounds_toArray, List.set_cons_zero, List.set_cons_succ]; rfl)))
            (refine take_ (i := 11) (N := some 63) (v := ?_) (a' := ?_) #[true, true, false, true, true, true, true, true, true, true, true, true, false, false, false, false, false, false, false] rfl rfl (by kernel_rfl) (fun _ _ _ h => h) (Or.inl ⟨by rfl, ?_⟩) hHeld ?_ ?_; rotate_left; (focus (intro w'_ hs_; (repeat obtain ⟨_, hs_⟩ := hs_); go_simp; with_reducible rfl)); rotate_left; (focus (simp only [Act.put, List.setIfInBounds_toArray, List.set_cons_zero, List.set_cons_succ]; rfl)))
            (refine pure_ (i := 12) (N := some 64) (v := ?_) (a' := ?_) #[true, true, false, true, true, true, true, true, true, true, true, true, true, false, false, false, false, false, false] rfl rfl (by kernel_rfl) (fun _ _ _ h => h) (Or.inl ⟨by rfl, ?_⟩) ?_ ?_; rotate_left; (focus (intro w'_; go_simp; with_reducible rfl)); rotate_left; (focus (simp only [Act.put, List.setIfInBounds_toArray, List.set_cons_zero, List.set_cons_succ]; rfl)))
            (refine pure_ (i := 13) (N := some 65) (v := ?_) (a' := ?_) #[true, true, false, true, true, true, true, true, true, true, true, true, true, true, false, false, false, false, false] rfl rfl (by kernel_rfl) (fun _ _ _ h => h) (Or.inl ⟨by rfl, ?_⟩) ?_ ?_; rotate_left; (focus (intro w'_; go_simp; with_reducible rfl)); rotate_left; (focus (simp only [Act.put, List.setIfInBounds_toArray, List.set_cons_zero, List.set_cons_succ]; rfl)))
            refine one_ (i := 2) (N := some 54) #[true, true, true, true, true, true, true, true, true, true, true, true, true, true, false, false, false, false, false] rfl rfl (by kernel_rfl) (by decide) (fun K hK => ?_)
            (refine value_ (w1 := ?_) (v := ?_) (by rfl) rfl ?_ ?_; rotate_left 2; (focus (go_simp; constructor <;> rfl)))
            have he1 : Kd.R kPt 65 (Wb.alloc (.cells #[] 65)) Wb.heap.size (fun _ => True) (.slice (some ⟨Wb.heap.size, 0, none⟩) 0 0) [] := R_pts0 Wb (Nat.le_refl _) _ trivial
            have hb0 : Below Wb.heap.size Wb (Wb.alloc (.cells #[] 65)) := below_alloc (Below.refl _ _) _
            obtain ⟨be, hbe⟩ : ∃ v, v = Wb.heap.size := ⟨_, rfl⟩
            obtain ⟨X1, hX1⟩ : ∃ x, x = Wb.alloc (.cells #[] 65) := ⟨_, rfl⟩
            rw [← hX1] at he1 hb0 ⊢
            have he2 : Kd.R kPt 65 X1 Wb.heap.size (fun _ => True) (.slice (some ⟨be, 0, none⟩) 0 0) [] := by rw [hbe]; exact he1
            rw [← hbe]
            clear hbe hX1 he1
            have cp0 := q0.below hb0
            refine hK.out _ _ ⟨(blk_cell cp0.o 2).trans rfl, (blk_cell cp0.n 2).trans rfl, (blk_cell cp0.n 1).trans rfl, cell_below (below_step HB.out cp0.B) HX2.out, trivial⟩ (fun hHeld2 => ?_)
            clear hK K hHeld
            (refine norm_ (a' := ?_) ?_ ?_; rotate_left; focus (show Act.put _ (some 54) _ = _; simp only [Act.put, List.setIfInBounds_toArray, List.set_cons_zero, List.set_cons_succ]; rfl))
            refine one_ (i := 14) (N := some 66) #[true, true, true, true, true, true, true, true, true, true, true, true, true, true, true, false, false, false, false] rfl rfl (by kernel_rfl) (by decide) (fun K hK => ?_)
            refine Kd.R_append_rows_step kPt (w0 := Wb) Wb.heap.size (by rfl) (.tmp 54) (.tmp 65) 22 65 (.agg #[.int .u64 0, .int .u64 0]) 16 rfl Tryd.underlying22 infoPt rfl (by decide) (by omega) (.slice (some ⟨be, 0, none⟩) 0 0) [] r _ _ _ (fun _ => True) (fun _ => False) rfl rfl ?aO ?aR (fun _ _ h => h) (fun _ h => h.elim) ?aF ?aB ?aS ?aL ?_
            case aO => exact he2
            case aR => exact Kd.C_below HRC.out (below_step HB.out cp0.B)
            case aF => exact fun _ _ => trivial
            case aB => exact hb0
            case aS => exact hb0.size
            case aL => show (0 + r.length) * 16 ≤ _; omega
            intro vr w1 ho hb1 hg1 hat1
            rw [List.nil_append] at ho
            obtain ⟨A5, c5, e5⟩ := Kd.R_slice ho
            subst e5
            have nx1 := q0.below hb1
            have s1' := Kd.S_old s0 hb1
            have hvlt := Kd.S_lt s0
            have hz1 : Wb.heap.size ≤ w1.heap.size := hb1.size
            have hgrown := Kd.R_bound ho
            clear q0 s0 cp0 hat1 hg1
            refine hK.out _ _ ⟨(blk_cell nx1.o 2).trans rfl, (blk_cell nx1.n 2).trans rfl, (blk_cell nx1.n 1).trans rfl, cell_below (below_step HB.out nx1.B) HX2.out, trivial⟩ (fun hHeld => ?_)
            clear hK K hHeld2 he2
            (refine norm_ (a' := ?_) ?_ ?_; rotate_left; focus (show Act.put _ (some 66) _ = _; simp only [Act.put, List.setIfInBounds_toArray, List.set_cons_zero, List.set_cons_succ]; rfl))
            refine one_ (i := 15) (N := some 67) #[true, true, true, true, true, true, true, true, true, true, true, true, true, true, true, true, false, false, false] rfl rfl (by kernel_rfl) (by decide) (fun K hK => ?_)
            (refine value_ (w1 := ?_) (v := ?_) (by rfl) rfl ?_ ?_; rotate_left 2; (focus (go_simp; constructor <;> rfl)))
            have nxa := nx1.below (below_alloc (Below.refl _ w1) (.cells #[.slice A5 r.length c5] 22))
            refine hK.out _ _ ⟨(blk_cell nxa.o 2).trans rfl, (blk_cell nxa.n 2).trans rfl, (blk_cell nxa.n 1).trans rfl, cell_below (below_step HB.out nxa.B) HX2.out, trivial⟩ (fun hHeld2 => ?_)
            clear hK K hHeld nxa
            (refine norm_ (a' := ?_) ?_ ?_; rotate_left; focus (show Act.put _ (some 67) _ = _; simp only [Act.put, List.setIfInBounds_toArray, List.set_cons_zero, List.set_cons_succ]; rfl))
            refine one_ (i := 16) (N := some 68) #[true, true, true, true, true, true, true, true, true, true, true, true, true, true, true, true, true, false, false] rfl rfl (by kernel_rfl) (by decide) (fun K hK => ?_)
            have hord := HORD.out
            refine Kd.S_append_step (Kd.slice 65 kPt) (w0 := w) w.heap.size (by rfl) (.tmp 53) (.tmp 67) 23 22 (.slice none 0 0) 24 rfl Tryd.underlying23 infoPts rfl (by decide) (by omega) v2 (R.take j) r [.slice A5 r.length c5] (fun k => go_ < k) (fun k => Wb.heap.size ≤ k) rfl rfl ?aP ?aK ?aF ?aO ?aB ?aS ?aL ?_
            case aP => exact Kd.M_row (Kd.R_lower (Kd.R_mono hgrown (fun k h => h.2.1)) (by omega))
            case aK => exact fun k h => ⟨by omega, fun e => by have := hvlt k e.symm; omega⟩
            case aF => exact fun k h => by omega
            case aO => exact Kd.S_mono s1' (fun k h => ⟨h.1, by have := h.2; show ¬ _ ≤ k; omega⟩)
            case aB => exact nx1.B
            case aS => omega
            case aL => rw [List.length_take]; omega
            intro v3 w2 ho2 hb2 hg2 hat2
            obtain ⟨TT, hTT⟩ : ∃ TT, TT = List.take j R ++ [r] := ⟨_, rfl⟩
            rw [← hTT] at ho2
            have HTT := Aside0.mk (show TT = R.take (j + 1) by rw [hTT, HRT.out])
            clear hTT
            obtain ⟨A6, c6, e6⟩ := Kd.S_slice ho2
            subst e6
            have hown : ∀ k, v2.ownBlock = some k → go_ < k := fun k e => (Kd.S_R s1').1 k e |>.1
            have nx2 := nx1.grown (by omega) hg2 hb2 hown
            clear nx1 s1' hown hat2 hg2 hb2
            refine hK.out _ _ ⟨(blk_cell nx2.o 2).trans rfl, (blk_cell nx2.n 2).trans rfl, (blk_cell nx2.n 1).trans rfl, cell_below (below_step HB.out nx2.B) HX2.out, trivial⟩ (fun hHeld => ?_)
            clear hK K hHeld2
            (refine norm_ (a' := ?_) ?_ ?_; rotate_left; focus (show Act.put _ (some 68) _ = _; simp only [Act.put, List.setIfInBounds_toArray, List.set_cons_zero, List.set_cons_succ]; rfl))
            (refine pure_ (i := 17) (N := some 69) (v := ?_) (a' := ?_) #[true, true, true, true, true, true, true, true, true, true, true, true, true, true, true, true, true, true, false] rfl rfl (by kernel_rfl) (fun _ _ _ h => h) (Or.inl ⟨by rfl, ?_⟩) ?_ ?_; rotate_left; (focus (intro w'_; go_simp; with_reducible rfl)); rotate_left; (focus (simp only [Act.put, List.setIfInBounds_toArray, List.set_cons_zero, List.set_cons_succ]; rfl)))
            refine last_ (i := 18) (N := none) #[true, true, true, true, true, true, true, true, true, true, true, true, true, true, true, true, true, true, true] rfl rfl (by kernel_rfl) (by decide) (fun K hK => ?_)
            have hs0 : w2.cell? ⟨go_, 2, none⟩ = some v2 := (blk_cell nx2.o 2).trans rfl
            have hf0 := blk_frozen nx2.o 2
            refine skip_ (w1 := ?_) (by rfl) rfl ?_ ?_
            rotate_left
            · go_simp
              rfl
            refine hK.out _ _ ?_
            clear hK K
            refine done_ (by kernel_rfl) ?_
            have nx3 := nx2.set2 hord (.slice A6 TT.length c6)
            have s4 := Kd.S_far (p := ⟨go_, 2, none⟩) ho2 (fun k h => by show k ≠ go_; omega) (.slice A6 TT.length c6)
            obtain ⟨v5, hv5⟩ : ∃ v, v = Value.slice A6 TT.length c6 := ⟨_, rfl⟩
            rw [← hv5] at nx3 s4 ⊢
            obtain ⟨W6, hW6⟩ : ∃ y, y = w2.setCell ⟨go_, 2, none⟩ v5 := ⟨_, rfl⟩
            rw [← hW6] at nx3 s4 ⊢
            have RX := Aside0.mk nx3
            have HSV := Aside0.mk (show Kd.S (Kd.slice 65 kPt) 22 W6 w.heap.size (fun k => go_ < k) v5 (R.take (j + 1)) by rw [← HTT.out]; exact s4)
            clear hv5 hW6 nx2 nx3 s4 ho2 hs0 hf0 hHeld hord g1 g2 g3 g5 g6 g7
            have n1 : W6.cell? ⟨gn, 1, none⟩ = some (.slice (some a2) x.f1.length s1) := (blk_cell RX.out.n 1).trans rfl
            have hx' := cell_below (below_step HB.out RX.out.B) HX2.out
            go_wp2_with fail
            go_roundg kq
            case measure => omega
            case rel => exact ⟨j + 1, v5, by omega, by go_num, by rw [HUS.out]; go_num, RX, HSV⟩
          | some aL =>
            obtain ⟨AS, hAS⟩ : ∃ y, y = (if l1 = q then some aL else some (aL.add (q * 2))) := ⟨_, rfl⟩
            have HRC := Aside0.mk (show Kd.C kPt w0 AS r.length r by rw [hAS]; exact HRC0.out)
            clear HRC0
            go_wp2_with fail
            have q0 := RX.out.below (below_drew (Below.refl _ _))
            have s0 := Kd.S_drew HSV.out
            have hszd : wr.drew.heap.size = wr.heap.size := rfl
            have hgz : go_ < wr.drew.heap.size := blk_lt q0.o
            refine start_ (n := 19) (S := fun w' => w'.cell? ⟨go_, 2, none⟩ = some v2 ∧ w'.cell? ⟨gn, 2, none⟩ = some (.slice (some aL) x.f2.length l1) ∧ w'.cell? ⟨gn, 1, none⟩ = some (.slice (some a2) x.f1.length s1) ∧ w'.cell? (a2.add j) = some (.int .i64 (r.length : Int)) ∧ True) (ds := [18]) #[false, false, false, false, false, false, false, false, false, false, false, false, false, false, false, false, false, false, false] hmx rfl rfl ⟨(blk_cell q0.o 2).trans rfl, (blk_cell q0.n 2).trans rfl, (blk_cell q0.n 1).trans rfl, cell_below (below_step HB.out q0.B) HX2.out, trivial⟩ (fun hHeld => ?_)
            clear RX HSV hszd n1
            generalize wr.drew = Wb at q0 s0 hgz hHeld ⊢
            (refine pure_ (i := 0) (N := some 52) (v := ?_) (a' := ?_) #[true, false, false, false, false, false, false, false, false, false, false, false, false, false, false, false, false, false, false] rfl rfl (by kernel_rfl) (fun _ _ _ h => h) (Or.inl ⟨by rfl, ?_⟩) ?_ ?_; rotate_left; (focus (intro w'_; go_simp; with_reducible rfl)); rotate_left; (focus (simp only [Act.put, List.setIfInBounds_toArray, List.set_cons_zero, List.set_cons_succ]; rfl)))
            (refine pure_ (i := 3) (N := some 55) (v := ?_) (a' := ?_) #[true, false, false, true, false, false, false, false, false, false, false, false, false, false, false, false, false, false, false] rfl rfl (by kernel_rfl) (fun _ _ _ h => h) (Or.inl ⟨by rfl, ?_⟩) ?_ ?_; rotate_left; (focus (intro w'_; go_simp; with_reducible rfl)); rotate_left; (focus (simp only [Act.put, List.setIfInBounds_toArray, List.set_cons_zero, List.set_cons_succ]; rfl)))
            (refine pure_ (i := 5) (N := some 57) (v := ?_) (a' := ?_) #[true, false, false, true, false, true, false, false, false, false, false, false, false, false, false, false, false, false, false] rfl rfl (by kernel_rfl) (fun _ _ _ h => h) (Or.inl ⟨by rfl, ?_⟩) ?_ ?_; rotate_left; (focus (intro w'_; go_simp; with_reducible rfl)); rotate_left; (focus (simp only [Act.put, List.setIfInBounds_toArray, List.set_cons_zero, List.set_cons_succ]; rfl)))
            (refine pure_ (i := 6) (N := some 58) (v := ?_) (a' := ?_) #[true, false, false, true, false, true, true, false, false, false, false, false, false, false, false, false, false, false, false] rfl rfl (by kernel_rfl) (fun _ _ _ h => h) (Or.inl ⟨by rfl, ?_⟩) ?_ ?_; rotate_left; (focus (intro w'_; go_simp; with_reducible rfl)); rotate_left; (focus (simp only [Act.put, List.setIfInBounds_toArray, List.set_cons_zero, List.set_cons_succ]; rfl)))
            (refine pure_ (i := 7) (N := some 59) (v := ?_) (a' := ?_) #[true, false, false, true, false, true, true, true, false, false, false, false, false, false, false, false, false, false, false] rfl rfl (by kernel_rfl) (fun _ _ _ h => h) (Or.inl ⟨by rfl, ?_⟩) ?_ ?_; rotate_left; (focus (intro w'_; go_simp; with_reducible rfl)); rotate_left; (focus (simp only [Act.put, List.setIfInBounds_toArray, List.set_cons_zero, List.set_cons_succ]; rfl)))
            (refine pure_ (i := 9) (N := some 61) (v := ?_) (a' := ?_) #[true, false, false, true, false, true, true, true, false, true, false, false, false, false, false, false, false, false, false] rfl rfl (by kernel_rfl) (fun _ _ _ h => h) (Or.inl ⟨by rfl, ?_⟩) ?_ ?_; rotate_left; (focus (intro w'_; go_simp; with_reducible rfl)); rotate_left; (focus (simp only [Act.put, List.setIfInBounds_toArray, List.set_cons_zero, List.set_cons_succ]; rfl)))
            (refine take_ (i := 1) (N := some 53) (v := ?_) (a' := ?_) #[true, true, false, true, false, true, true, true, false, true, false, false, false, false, false, false, false, false, false] rfl rfl (by kernel_rfl) (fun _ _ _ h => h) (Or.inl ⟨by rfl, ?_⟩) hHeld ?_ ?_; rotate_left; (focus (intro w'_ hs_; (repeat obtain ⟨_, hs_⟩ := hs_); go_simp; with_reducible rfl)); rotate_left; (focus (simp only [Act.put, List.setIfInBounds_toArray, List.set_cons_zero, List.set_cons_succ]; rfl)))
            (refine take_ (i := 4) (N := some 56) (v := ?_) (a' := ?_) #[true, true, false, true, true, true, true, true, false, true, false, false, false, false, false, false, false, false, false] rfl rfl (by kernel_rfl) (fun _ _ _ h => h) (Or.inl ⟨by rfl, ?_⟩) hHeld ?_ ?_; rotate_left; (focus (intro w'_ hs_; (repeat obtain ⟨_, hs_⟩ := hs_); go_simp; with_reducible rfl)); rotate_left; (focus (simp only [Act.put, List.setIfInBounds_toArray, List.set_cons_zero, List.set_cons_succ]; rfl)))
            (refine take_ (i := 8) (N := some 60) (v := ?_) (a' := ?_) #[true, true, false, true, true, true, true, true, true, true, false, false, false, false, false, false, false, false, false] rfl rfl (by kernel_rfl) (fun _ _ _ h => h) (Or.inl ⟨by rfl, ?_⟩) hHeld ?_ ?_; rotate_left; (focus (intro w'_ hs_; (repeat obtain ⟨_, hs_⟩ := hs_); go_simp; with_reducible rfl)); rotate_left; (focus (simp only [Act.put, List.setIfInBounds_toArray, List.set_cons_zero, List.set_cons_succ]; rfl)))
            (refine pure_ (i := 10) (N := some 62) (v := ?_) (a' := ?_) #[true, true, false, true, true, true, true, true, true, true, true, false, false, false, false, false, false, false, false] rfl rfl (by kernel_rfl) (fun _ _ _ h => h) (Or.inl ⟨by rfl, ?_⟩) ?_ ?_; rotate_left; (focus (intro w'_; go_simp; with_reducible rfl)); rotate_left; (focus (simp only [Act.put, List.setIfInBounds_toArray, List.set_cons_zero, List.set_cons_succ]; rfl)))
            (refine take_ (i := 11) (N := some 63) (v := ?_) (a' := ?_) #[true, true, false, true, true, true, true, true, true, true, true, true, false, false, false, false, false, false, false] rfl rfl (by kernel_rfl) (fun _ _ _ h => h) (Or.inl ⟨by rfl, ?_⟩) hHeld ?_ ?_; rotate_left; (focus (intro w'_ hs_; (repeat obtain ⟨_, hs_⟩ := hs_); go_simp; with_reducible rfl)); rotate_left; (focus (simp only [Act.put, List.setIfInBounds_toArray, List.set_cons_zero, List.set_cons_succ]; rfl)))
            (refine pure_ (i := 12) (N := some 64) (v := ?_) (a' := ?_) #[true, true, false, true, true, true, true, true, true, true, true, true, true, false, false, false, false, false, false] rfl rfl (by kernel_rfl) (fun _ _ _ h => h) (Or.inl ⟨by rfl, ?_⟩) ?_ ?_; rotate_left; (focus (intro w'_; go_simp; with_reducible rfl)); rotate_left; (focus (simp only [Act.put, List.setIfInBounds_toArray, List.set_cons_zero, List.set_cons_succ]; rfl)))
            (refine pure_ (i := 13) (N := some 65) (v := ?_) (a' := ?_) #[true, true, false, true, true, true, true, true, true, true, true, true, true, true, false, false, false, false, false] rfl rfl (by kernel_rfl) (fun _ _ _ h => h) (Or.inl ⟨by rfl, ?_⟩) ?_ ?_; rotate_left; (focus (intro w'_; go_simp; with_reducible rfl)); rotate_left; (focus (simp only [Act.put, List.setIfInBounds_toArray, List.set_cons_zero, List.set_cons_succ]; rfl)))
            rw [← hAS]
            clear hAS
            refine one_ (i := 2) (N := some 54) #[true, true, true, true, true, true, true, true, true, true, true, true, true, true, false, false, false, false, false] rfl rfl (by kernel_rfl) (by decide) (fun K hK => ?_)
            (refine value_ (w1 := ?_) (v := ?_) (by rfl) rfl ?_ ?_; rotate_left 2; (focus (go_simp; constructor <;> rfl)))
            have he1 : Kd.R kPt 65 (Wb.alloc (.cells #[] 65)) Wb.heap.size (fun _ => True) (.slice (some ⟨Wb.heap.size, 0, none⟩) 0 0) [] := R_pts0 Wb (Nat.le_refl _) _ trivial
            have hb0 : Below Wb.heap.size Wb (Wb.alloc (.cells #[] 65)) := below_alloc (Below.refl _ _) _
            obtain ⟨be, hbe⟩ : ∃ v, v = Wb.heap.size := ⟨_, rfl⟩
            obtain ⟨X1, hX1⟩ : ∃ x, x = Wb.alloc (.cells #[] 65) := ⟨_, rfl⟩
            rw [← hX1] at he1 hb0 ⊢
            have he2 : Kd.R kPt 65 X1 Wb.heap.size (fun _ => True) (.slice (some ⟨be, 0, none⟩) 0 0) [] := by rw [hbe]; exact he1
            rw [← hbe]
            clear hbe hX1 he1
            have cp0 := q0.below hb0
            refine hK.out _ _ ⟨(blk_cell cp0.o 2).trans rfl, (blk_cell cp0.n 2).trans rfl, (blk_cell cp0.n 1).trans rfl, cell_below (below_step HB.out cp0.B) HX2.out, trivial⟩ (fun hHeld2 => ?_)
            clear hK K hHeld
            (refine norm_ (a' := ?_) ?_ ?_; rotate_left; focus (show Act.put _ (some 54) _ = _; simp only [Act.put, List.setIfInBounds_toArray, List.set_cons_zero, List.set_cons_succ]; rfl))
            refine one_ (i := 14) (N := some 66) #[true, true, true, true, true, true, true, true, true, true, true, true, true, true, true, false, false, false, false] rfl rfl (by kernel_rfl) (by decide) (fun K hK => ?_)
            refine Kd.R_append_rows_step kPt (w0 := Wb) Wb.heap.size (by rfl) (.tmp 54) (.tmp 65) 22 65 (.agg #[.int .u64 0, .int .u64 0]) 16 rfl Tryd.underlying22 infoPt rfl (by decide) (by omega) (.slice (some ⟨be, 0, none⟩) 0 0) [] r _ _ _ (fun _ => True) (fun _ => False) rfl rfl ?aO ?aR (fun _ _ h => h) (fun _ h => h.elim) ?aF ?aB ?aS ?aL ?_
            case aO => exact he2
            case aR => exact Kd.C_below HRC.out (below_step HB.out cp0.B)
            case aF => exact fun _ _ => trivial
            case aB => exact hb0
            case aS => exact hb0.size
            case aL => show (0 + r.length) * 16 ≤ _; omega
            intro vr w1 ho hb1 hg1 hat1
            rw [List.nil_append] at ho
            obtain ⟨A5, c5, e5⟩ := Kd.R_slice ho
            subst e5
            have nx1 := q0.below hb1
            have s1' := Kd.S_old s0 hb1
            have hvlt := Kd.S_lt s0
            have hz1 : Wb.heap.size ≤ w1.heap.size := hb1.size
            have hgrown := Kd.R_bound ho
            clear q0 s0 cp0 hat1 hg1
            refine hK.out _ _ ⟨(blk_cell nx1.o 2).trans rfl, (blk_cell nx1.n 2).trans rfl, (blk_cell nx1.n 1).trans rfl, cell_below (below_step HB.out nx1.B) HX2.out, trivial⟩ (fun hHeld => ?_)
            clear hK K hHeld2 he2
            (refine norm_ (a' := ?_) ?_ ?_; rotate_left; focus (show Act.put _ (some 66) _ = _; simp only [Act.put, List.setIfInBounds_toArray, List.set_cons_zero, List.set_cons_succ]; rfl))
            refine one_ (i := 15) (N := some 67) #[true, true, true, true, true, true, true, true, true, true, true, true, true, true, true, true, false, false, false] rfl rfl (by kernel_rfl) (by decide) (fun K hK => ?_)
            (refine value_ (w1 := ?_) (v := ?_) (by rfl) rfl ?_ ?_; rotate_left 2; (focus (go_simp; constructor <;> rfl)))
            have nxa := nx1.below (below_alloc (Below.refl _ w1) (.cells #[.slice A5 r.length c5] 22))
            refine hK.out _ _ ⟨(blk_cell nxa.o 2).trans rfl, (blk_cell nxa.n 2).trans rfl, (blk_cell nxa.n 1).trans rfl, cell_below (below_step HB.out nxa.B) HX2.out, trivial⟩ (fun hHeld2 => ?_)
            clear hK K hHeld nxa
            (refine norm_ (a' := ?_) ?_ ?_; rotate_left; focus (show Act.put _ (some 67) _ = _; simp only [Act.put, List.setIfInBounds_toArray, List.set_cons_zero, List.set_cons_succ]; rfl))
            refine one_ (i := 16) (N := some 68) #[true, true, true, true, true, true, true, true, true, true, true, true, true, true, true, true, true, false, false] rfl rfl (by kernel_rfl) (by decide) (fun K hK => ?_)
            have hord := HORD.out
            refine Kd.S_append_step (Kd.slice 65 kPt) (w0 := w) w.heap.size (by rfl) (.tmp 53) (.tmp 67) 23 22 (.slice none 0 0) 24 rfl Tryd.underlying23 infoPts rfl (by decide) (by omega) v2 (R.take j) r [.slice A5 r.length c5] (fun k => go_ < k) (fun k => Wb.heap.size ≤ k) rfl rfl ?aP ?aK ?aF ?aO ?aB ?aS ?aL ?_
            case aP => exact Kd.M_row (Kd.R_lower (Kd.R_mono hgrown (fun k h => h.2.1)) (by omega))
            case aK => exact fun k h => ⟨by omega, fun e => by have := hvlt k e.symm; omega⟩
            case aF => exact fun k h => by omega
            case aO => exact Kd.S_mono s1' (fun k h => ⟨h.1, by have := h.2; show ¬ _ ≤ k; omega⟩)
            case aB => exact nx1.B
            case aS => omega
            case aL => rw [List.length_take]; omega
            intro v3 w2 ho2 hb2 hg2 hat2
            obtain ⟨TT, hTT⟩ : ∃ TT, TT = List.take j R ++ [r] := ⟨_, rfl⟩
            rw [← hTT] at ho2
            have HTT := Aside0.mk (show TT = R.take (j + 1) by rw [hTT, HRT.out])
            clear hTT
            obtain ⟨A6, c6, e6⟩ := Kd.S_slice ho2
            subst e6
            have hown : ∀ k, v2.ownBlock = some k → go_ < k := fun k e => (Kd.S_R s1').1 k e |>.1
            have nx2 := nx1.grown (by omega) hg2 hb2 hown
            clear nx1 s1' hown hat2 hg2 hb2
            refine hK.out _ _ ⟨(blk_cell nx2.o 2).trans rfl, (blk_cell nx2.n 2).trans rfl, (blk_cell nx2.n 1).trans rfl, cell_below (below_step HB.out nx2.B) HX2.out, trivial⟩ (fun hHeld => ?_)
            clear hK K hHeld2
            (refine norm_ (a' := ?_) ?_ ?_; rotate_left; focus (show Act.put _ (some 68) _ = _; simp only [Act.put, List.setIfInBounds_toArray, List.set_cons_zero, List.set_cons_succ]; rfl))
            (refine pure_ (i := 17) (N := some 69) (v := ?_) (a' := ?_) #[true, true, true, true, true, true, true, true, true, true, true, true, true, true, true, true, true, true, false] rfl rfl (by kernel_rfl) (fun _ _ _ h => h) (Or.inl ⟨by rfl, ?_⟩) ?_ ?_; rotate_left; (focus (intro w'_; go_simp; with_reducible rfl)); rotate_left; (focus (simp only [Act.put, List.setIfInBounds_toArray, List.set_cons_zero, List.set_cons_succ]; rfl)))
            refine last_ (i := 18) (N := none) #[true, true, true, true, true, true, true, true, true, true, true, true, true, true, true, true, true, true, true] rfl rfl (by kernel_rfl) (by decide) (fun K hK => ?_)
            have hs0 : w2.cell? ⟨go_, 2, none⟩ = some v2 := (blk_cell nx2.o 2).trans rfl
            have hf0 := blk_frozen nx2.o 2
            refine skip_ (w1 := ?_) (by rfl) rfl ?_ ?_
            rotate_left
            · go_simp
              rfl
            refine hK.out _ _ ?_
            clear hK K
            refine done_ (by kernel_rfl) ?_
            have nx3 := nx2.set2 hord (.slice A6 TT.length c6)
            have s4 := Kd.S_far (p := ⟨go_, 2, none⟩) ho2 (fun k h => by show k ≠ go_; omega) (.slice A6 TT.length c6)
            obtain ⟨v5, hv5⟩ : ∃ v, v = Value.slice A6 TT.length c6 := ⟨_, rfl⟩
            rw [← hv5] at nx3 s4 ⊢
            obtain ⟨W6, hW6⟩ : ∃ y, y = w2.setCell ⟨go_, 2, none⟩ v5 := ⟨_, rfl⟩
            rw [← hW6] at nx3 s4 ⊢
            have RX := Aside0.mk nx3
            have HSV := Aside0.mk (show Kd.S (Kd.slice 65 kPt) 22 W6 w.heap.size (fun k => go_ < k) v5 (R.take (j + 1)) by rw [← HTT.out]; exact s4)
            clear hv5 hW6 nx2 nx3 s4 ho2 hs0 hf0 hHeld hord g1 g2 g3 g5 g6 g7
            have n1 : W6.cell? ⟨gn, 1, none⟩ = some (.slice (some a2) x.f1.length s1) := (blk_cell RX.out.n 1).trans rfl
            have hx' := cell_below (below_step HB.out RX.out.B) HX2.out
            go_wp2_with fail
            go_roundg kq
            case measure => omega
            case rel => exact ⟨j + 1, v5, by omega, by go_num, by rw [HUS.out]; go_num, RX, HSV⟩
    · have k3a : (x.f0 == 3) = false := beq_eq_false_iff_ne.mpr k3
      have h3 : 3 < x.f0 := by omega
      obtain ⟨a, ha, har⟩ := sound_many HSO.out h3
      have hlen1 : x.f1.length = 1 := by rw [ha]; rfl
      obtain ⟨a2, e2, hx⟩ := at_I J1.out 0 rfl (by omega)
      subst e2
      have hx2 : w0.cell? a2 = some (.int .i64 (a : Int)) := by
        have e : a2.add 0 = a2 := by cases a2; simp [Addr.add]
        have hv : x.f1[0]'(by omega) = (a : Int) := by simp [ha]
        rw [e, hv] at hx
        exact hx
      have HX2 := Aside0.mk hx2
      have HAR := Aside0.mk har
      have H3 := Aside0.mk h3
      have hl1 : (0 : Int) < (x.f1.length : Int) := by omega
      have hll : l.length ≤ 2097152 := by have := HWL.out; omega
      clear hx hx2 ha har hlen1 k3 h3
      go_wp2_with fail
      go_loopg [1, 11] a (fun kq p i wr => ∃ (q : Nat) (ps : List Ge) (v3 : Value), ps.length + kq = a ∧ i = .int .i64 (ps.length : Int) ∧ p = .int .i64 (q : Int) ∧ at_ + 1 + ps.length ≤ q ∧ q ≤ l.length ∧ Aside0 (∀ p ∈ ps, Canon p) ∧ Aside0 (l.drop (at_ + 1) = (ps.map flatN).flatten ++ l.drop q ∧ q = at_ + 1 + (ps.map flatN).flatten.length) ∧ Aside0 (MX w wr gr gn go_ #[.int .i64 x.f0, .slice (some a2) x.f1.length s1, .slice L1 x.f2.length l1] x.f0 (.slice none 0 0) (.slice none 0 0) v3) ∧ Aside0 (Kd.S (kSp n) 26 wr w.heap.size (fun k => go_ < k) v3 ps))
      case atStart => exact ⟨at_ + 1, [], _, by simp, rfl, rfl, by simp, by omega, ⟨fun _ h => by cases h⟩, ⟨rfl, by simp⟩, RX, ⟨Kd.S_nil _ _ _ _ _⟩⟩
      case round =>
        clear RX n0
        obtain ⟨q, ps, v3, hj, rfl, rfl, hq1, hq2, HPS, HQ, RX, HSV⟩ := hrel
        have n1 : wr.cell? ⟨gn, 1, none⟩ = some (.slice (some a2) x.f1.length s1) := (blk_cell RX.out.n 1).trans rfl
        have hx' := cell_below (below_step HB.out RX.out.B) HX2.out
        cases gk with
        | zero =>
          have hlt : ¬ ((ps.length : Int) < (a : Int)) := by omega
          obtain ⟨A4, c4, e4⟩ := Kd.S_slice HSV.out
          subst e4
          have HPL := Aside0.mk (show ps.length = arity x by rw [HAR.out]; omega)
          obtain ⟨hnd, hcan⟩ := node_many HSO.out H3.out HPS.out HPL.out
          have HND := Aside0.mk hnd
          have HCAN := Aside0.mk hcan
          have HNR := Aside0.mk (Kd.R_nil kPt 65 wr w.heap.size (fun _ => False))
          have HNS := Aside0.mk (Kd.S_nil (Kd.slice 65 kPt) 22 wr w.heap.size (fun _ => False))
          clear hnd hcan hj
          have o0 : wr.cell? ⟨go_, 0, none⟩ = some (.int .i64 x.f0) := (blk_cell RX.out.o 0).trans rfl
          have o1 : wr.cell? ⟨go_, 1, none⟩ = some (.slice none 0 0) := (blk_cell RX.out.o 1).trans rfl
          have o2 : wr.cell? ⟨go_, 2, none⟩ = some (.slice none 0 0) := (blk_cell RX.out.o 2).trans rfl
          have o3 : wr.cell? ⟨go_, 3, none⟩ = some (.slice A4 ps.length c4) := (blk_cell RX.out.o 3).trans rfl
          have r0 : wr.cell? ⟨gr, 0, none⟩ = some (.int .i64 0) := (blk_cell RX.out.r 0).trans rfl
          have t0 := blk_frozen RX.out.r 0
          have r1 : wr.cell? ⟨gr, 1, none⟩ = some (.slice none 0 0) := (blk_cell RX.out.r 1).trans rfl
          have t1 := blk_frozen RX.out.r 1
          have r2 : wr.cell? ⟨gr, 2, none⟩ = some (.slice none 0 0) := (blk_cell RX.out.r 2).trans rfl
          have t2 := blk_frozen RX.out.r 2
          have r3 : wr.cell? ⟨gr, 3, none⟩ = some (.slice none 0 0) := (blk_cell RX.out.r 3).trans rfl
          have t3 := blk_frozen RX.out.r 3
          go_wp2_with fail
          obtain ⟨hwr, hord1, hord2⟩ := HORD.out
          have bk := (blk_set (blk_set (blk_set (blk_set RX.out.r 0 (.int .i64 x.f0)) 1 (.slice none 0 0)) 2 (.slice none 0 0)) 3 (.slice A4 ps.length c4))
          refine bodyPost_ret (results_geom3 (a := 4) (c := 5) (d := 6) (by rfl) _ _ (by rfl) (by simpa using bk)) rfl ?_
          refine ⟨_, _, _, rfl, ?_, ((((RX.out.B.setCell (p := ⟨gr, 0, none⟩) hwr _).setCell (p := ⟨gr, 1, none⟩) hwr _).setCell (p := ⟨gr, 2, none⟩) hwr _).setCell (p := ⟨gr, 3, none⟩) hwr _)⟩
          refine .inl ⟨rfl, ⟨x.f0, [], [], ps⟩, l.drop q, HCAN.out, ?_, ?_, ⟨[.int .i64 x.f0, .slice none 0 0, .slice none 0 0, .slice A4 ps.length c4], rfl, ?_⟩⟩
          · rw [HDR.out, flatN_eq, HND.out, HQ.out.1]
            rfl
          · have hqq : q = at_ + (flatN ⟨x.f0, [], [], ps⟩).length := by
              rw [flatN_eq, List.length_cons]
              have := HQ.out.2
              show q = at_ + ((ps.map flatN).flatten.length + 1)
              omega
            rw [← hqq]
            rfl
          rw [kSp_M]
          exact ⟨_, _, _, (fun _ => False), (fun _ => False), (fun k => go_ < k), rfl, fun _ h => h.elim, fun _ h => h.elim, fun k h => by omega, fun _ h => h.elim, fun _ h => h.elim, fun _ h => h.elim, (Kd.R_far (p := ⟨gr, 3, none⟩) (Kd.R_far (p := ⟨gr, 2, none⟩) (Kd.R_far (p := ⟨gr, 1, none⟩) (Kd.R_far (p := ⟨gr, 0, none⟩) HNR.out (fun _ h => h.elim) _) (fun _ h => h.elim) _) (fun _ h => h.elim) _) (fun _ h => h.elim) _), (Kd.S_far (p := ⟨gr, 3, none⟩) (Kd.S_far (p := ⟨gr, 2, none⟩) (Kd.S_far (p := ⟨gr, 1, none⟩) (Kd.S_far (p := ⟨gr, 0, none⟩) HNS.out (fun _ h => h.elim) _) (fun _ h => h.elim) _) (fun _ h => h.elim) _) (fun _ h => h.elim) _), (Kd.S_far (p := ⟨gr, 3, none⟩) (Kd.S_far (p := ⟨gr, 2, none⟩) (Kd.S_far (p := ⟨gr, 1, none⟩) (Kd.S_far (p := ⟨gr, 0, none⟩) HSV.out (fun k h => by show k ≠ gr; omega) _) (fun k h => by show k ≠ gr; omega) _) (fun k h => by show k ≠ gr; omega) _) (fun k h => by show k ≠ gr; omega) _)⟩
        | succ kq =>
          have hlt : (ps.length : Int) < (a : Int) := by omega
          go_wp2_with fail
          refine (IH.out q wr (below_step HB.out RX.out.B) hq2 (by omega)).mono ?_
          rintro e w4 ⟨u, kv, vb, rfl, hres, hb4⟩
          rcases hres with ⟨rfl, g, r, hcan, hdrop, rfl, hcp⟩ | ⟨rfl, hu0, rfl, hno⟩
          · obtain ⟨cs, rfl, hM⟩ := hcp
            obtain ⟨E1, e1, E2, e2, E3, e3, rfl, _⟩ := kGe_open (kSp_K _ ((kSp _).K_of_M hM))
            have HM4 := Aside0.mk hM
            have HCG := Aside0.mk hcan
            have HDG := Aside0.mk hdrop
            obtain ⟨q2, hq⟩ : ∃ y, y = q + (flatN g).length := ⟨_, rfl⟩
            rw [← hq]
            have hfg : 1 ≤ (flatN g).length := by rw [flatN_eq]; simp
            have hdl := congrArg List.length hdrop
            rw [List.length_drop, List.length_append] at hdl
            have hq3 : q + 1 ≤ q2 ∧ q2 ≤ l.length := by omega
            have HQ2 := Aside0.mk hq
            have rx := RX.out.below hb4
            have s0 := Kd.S_old HSV.out hb4
            have HVL := Aside0.mk (Kd.S_lt HSV.out)
            have HW4 := Aside0.mk (show go_ < wr.heap.size ∧ wr.heap.size ≤ w4.heap.size from ⟨blk_lt RX.out.o, hb4.size⟩)
            clear hM hcan hdrop hq hfg hdl hb4 RX HSV n1 hx'
            go_upto_region 23 with fail
            obtain ⟨gp, hgp⟩ : ∃ y, y = w4.heap.size := ⟨_, rfl⟩
            obtain ⟨W5, hW5⟩ : ∃ y, y = w4.alloc (.cells #[.int .i64 g.f0, .slice E1 g.f1.length e1, .slice E2 g.f2.length e2, .slice E3 g.f3.length e3] 26) := ⟨_, rfl⟩
            rw [← hW5, ← hgp]
            have hb5 : Below w4.heap.size w4 W5 := by rw [hW5]; exact below_alloc (Below.refl _ _) _
            have kp : W5.heap[gp]? = some (.cells #[.int .i64 g.f0, .slice E1 g.f1.length e1, .slice E2 g.f2.length e2, .slice E3 g.f3.length e3] 26 (0, 0)) := by rw [hW5, hgp]; exact World.alloc_heap_new _ _
            have R5 := Aside0.mk (rx.below hb5)
            have S5 := Aside0.mk (Kd.S_below s0 hb5)
            have M5 := Aside0.mk (Kd.M_below HM4.out hb5)
            have HW5 := Aside0.mk hb5.size
            clear hW5 hgp hb5 rx s0 HM4
            have b0 : W5.cell? ⟨gp, 0, none⟩ = some (.int .i64 g.f0) := (blk_cell kp 0).trans rfl
            have b1 : W5.cell? ⟨gp, 1, none⟩ = some (.slice E1 g.f1.length e1) := (blk_cell kp 1).trans rfl
            have b2 : W5.cell? ⟨gp, 2, none⟩ = some (.slice E2 g.f2.length e2) := (blk_cell kp 2).trans rfl
            have b3 : W5.cell? ⟨gp, 3, none⟩ = some (.slice E3 g.f3.length e3) := (blk_cell kp 3).trans rfl
            have o3 : W5.cell? ⟨go_, 3, none⟩ = some v3 := (blk_cell R5.out.o 3).trans rfl
            have hpl : ps.length ≤ 2097152 := by omega
            go_upto_region 24 with ((with_reducible refine gate_builtin (b := .append) (xs := #[.tmp 99, .tmp 101]) rfl ?_); at_builtin; refine Kd.S_append (kSp n) (w0 := w) w.heap.size rfl (.tmp 99) (.tmp 101) 24 26 (.agg #[.int .i64 0, .slice none 0 0, .slice none 0 0, .slice none 0 0]) 80 rfl Tryd.underlying24 (by rw [kSp_sz]; exact infoGe) (by rw [kSp_sz]; rfl) (by rw [kSp_sz]; decide) (by omega) v3 ps g [.int .i64 g.f0, .slice E1 g.f1.length e1, .slice E2 g.f2.length e2, .slice E3 g.f3.length e3] (fun k => go_ < k) (fun k => wr.heap.size ≤ k) rfl rfl ?aP ?aK ?aF ?aO ?aB ?aS ?aL ?_; (case aP => exact (kSp n).M_lower (by show w.heap.size ≤ wr.heap.size; have := HORD.out; have := HW4.out; omega) M5.out); (case aK => exact fun k h => ⟨by have := HW4.out; omega, fun e => by have := HVL.out k e.symm; omega⟩); (case aF => exact fun k h => by have := HW4.out; have := HW5.out; omega); (case aO => exact Kd.S_mono S5.out (fun k h => ⟨h.1, by have := h.2; show ¬ _ ≤ k; omega⟩)); (case aB => exact R5.out.B); (case aS => exact R5.out.B.size); (case aL => omega); intro v4 w6 ho6 hb6 hg6 hat6; obtain ⟨TT, hTT⟩ : ∃ TT, TT = ps ++ [g] := ⟨_, rfl⟩; rw [← hTT] at ho6; have HTT := Aside0.mk hTT; clear hTT; obtain ⟨A6, c6, e6⟩ := Kd.S_slice ho6; subst e6; have rx6 := R5.out.grown (by have := HORD.out; omega) hg6 hb6 (fun k e => ((Kd.S_R S5.out).1 k e).1); have hs1 : w6.cell? ⟨go_, 3, none⟩ = some v3 := (blk_cell rx6.o 3).trans rfl; have hf1 := blk_frozen rx6.o 3; clear R5 S5 M5 b0 b1 b2 b3 o3 hb6 hg6 hat6 kp)
            have rx7 := rx6.set3 HORD.out (.slice A6 TT.length c6)
            have s7 := Kd.S_far (p := ⟨go_, 3, none⟩) ho6 (fun k h => by show k ≠ go_; omega) (.slice A6 TT.length c6)
            obtain ⟨v5, hv5⟩ : ∃ v, v = Value.slice A6 TT.length c6 := ⟨_, rfl⟩
            rw [← hv5] at rx7 s7 ⊢
            obtain ⟨W7, hW7⟩ : ∃ y, y = w6.setCell ⟨go_, 3, none⟩ v5 := ⟨_, rfl⟩
            rw [← hW7] at rx7 s7 ⊢
            have RX := Aside0.mk rx7
            have HSV := Aside0.mk s7
            clear hv5 hW7 rx6 rx7 s7 ho6 hs1 hf1
            have HTL := Aside0.mk (show TT.length = ps.length + 1 by rw [HTT.out]; simp)
            have HPS2 := Aside0.mk (show ∀ p ∈ TT, Canon p by
              intro p hp
              rw [HTT.out] at hp
              rcases List.mem_append.1 hp with hp | hp
              · exact HPS.out p hp
              · rw [List.mem_singleton.1 hp]; exact HCG.out)
            have HQN := Aside0.mk (show l.drop (at_ + 1) = (TT.map flatN).flatten ++ l.drop q2 ∧ q2 = at_ + 1 + (TT.map flatN).flatten.length by
              have e1 : l.drop q2 = r := by rw [HQ2.out, ← List.drop_drop, HDG.out, List.drop_left]
              rw [e1, HTT.out, List.map_append, List.flatten_append]
              refine ⟨?_, ?_⟩
              · rw [HQ.out.1, HDG.out]; simp
              · have h1 := HQ.out.2
                have h2 := HQ2.out
                rw [List.length_append, List.map_singleton, List.flatten_singleton]
                omega)
            go_wp2_with fail
            go_roundg kq
            case measure => omega
            case rel => exact ⟨q2, TT, v5, by rw [HTL.out]; omega, by rw [HTL.out]; go_num, rfl, by rw [HTL.out]; omega, hq3.2, HPS2, HQN, RX, HSV⟩
          · have hu2 : u = .agg #[.int .i64 0, .slice none 0 0, .slice none 0 0, .slice none 0 0] := hu0
            clear hu0
            subst hu2
            have HNO := Aside0.mk hno
            have HLT := Aside0.mk (show ps.length < arity x by rw [HAR.out]; omega)
            have R4 := Aside0.mk (RX.out.below hb4)
            clear hno hb4 RX HSV n1 hx'
            go_upto_region 22 with fail
            obtain ⟨gp, hgp⟩ : ∃ y, y = w4.heap.size := ⟨_, rfl⟩
            obtain ⟨W5, hW5⟩ : ∃ y, y = w4.alloc (.cells #[.int .i64 0, .slice none 0 0, .slice none 0 0, .slice none 0 0] 26) := ⟨_, rfl⟩
            rw [← hW5, ← hgp]
            have RX := Aside0.mk (R4.out.below (show Below w4.heap.size w4 W5 by rw [hW5]; exact below_alloc (Below.refl _ _) _))
            clear hW5 hgp R4
            have r0 : W5.cell? ⟨gr, 0, none⟩ = some (.int .i64 0) := (blk_cell RX.out.r 0).trans rfl
            have t0 := blk_frozen RX.out.r 0
            have r1 : W5.cell? ⟨gr, 1, none⟩ = some (.slice none 0 0) := (blk_cell RX.out.r 1).trans rfl
            have t1 := blk_frozen RX.out.r 1
            have r2 : W5.cell? ⟨gr, 2, none⟩ = some (.slice none 0 0) := (blk_cell RX.out.r 2).trans rfl
            have t2 := blk_frozen RX.out.r 2
            have r3 : W5.cell? ⟨gr, 3, none⟩ = some (.slice none 0 0) := (blk_cell RX.out.r 3).trans rfl
            have t3 := blk_frozen RX.out.r 3
            go_wp2_with fail
            obtain ⟨hwr, hord1, hord2⟩ := HORD.out
            have bk := (blk_set (blk_set (blk_set (blk_set RX.out.r 0 (.int .i64 0)) 1 (.slice none 0 0)) 2 (.slice none 0 0)) 3 (.slice none 0 0))
            refine bodyPost_ret (results_geom3 (a := 4) (c := 5) (d := 6) (by rfl) _ _ (by rfl) (by simpa using bk)) rfl ?_
            refine ⟨_, _, _, rfl, ?_, ((((RX.out.B.setCell (p := ⟨gr, 0, none⟩) hwr _).setCell (p := ⟨gr, 1, none⟩) hwr _).setCell (p := ⟨gr, 2, none⟩) hwr _).setCell (p := ⟨gr, 3, none⟩) hwr _)⟩
            refine .inr ⟨rfl, rfl, rfl, ?_⟩
            rw [HDR.out]
            exact made_not ps HPS.out HLT.out HQ.out.1 HNO.out
end Go.Proofs.YtmcbniobbbjdjaaDoor.Tree
