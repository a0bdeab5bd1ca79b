/- Nodes grown to trees, in plain Lean. No conditions but those told. -/
import Derived.Test.YtmcbniobbbjdjaaDoorTFlat
import Derived.Test.YtmcbniobbbjdjaaDoorTGeos
import Derived.Test.YtmcbniobbbjdjaaDoorTRShape
import Derived.Test.YtmcbniobbbjdjaaDoorTPutSem
namespace Go.Proofs.YtmcbniobbbjdjaaDoor.Tree
open Go.RowKit Go.Proofs.YtmcbniobbbjdjaaDoorW.PrintWords Go.Proofs.YtmcbniobbbjdjaaDoorW.PrintLast Go.Proofs.YtmcbniobbbjdjaaDoorW.PrintMore
set_option linter.unusedVariables false
set_option linter.unusedSimpArgs false
/-- The sizes of a node against what is left of its points. -/
def soundL (pts : Bool) : Int → List Int → Bool
  | left, [] => decide (left = 0)
  | left, k :: s => if k < 0 then false else if pts = true then (if left < k then false else soundL pts (left - k) s) else soundL pts left s
def soundB (x : Nd) : Bool := kindB x.f0 && ((decide (x.f0 = 3) || decide (x.f1.length = 1)) && soundL (decide (x.f0 ≤ 3)) (x.f2.length : Int) x.f1)
def arity (x : Nd) : Nat := if 3 < x.f0 then (x.f1.getD 0 0).toNat else 0
/-- Where nodes fail to make so many trees: the place; none where they make them. -/
def growE : Nat → Nat → List Nd → Option Nat
  | 0, _, [] => none
  | _ + 1, k, [] => some k
  | 0, k, _ :: _ => some k
  | n + 1, k, x :: l => if soundB x = true then growE (n + arity x) (k + 1) l else some k
theorem growE_cons (n k : Nat) (x : Nd) (l : List Nd) : growE (n + 1) k (x :: l) = if soundB x = true then growE (n + arity x) (k + 1) l else some k := rfl
/-- A geometry that has the lists of its kind alone. -/
def CanonAt (g : Ge) : Prop := (1 ≤ g.f0 ∧ g.f0 ≤ 7) ∧ (g.f0 ≤ 2 → g.f2 = [] ∧ g.f3 = []) ∧ (g.f0 = 3 → g.f1 = [] ∧ g.f3 = []) ∧ (3 < g.f0 → g.f1 = [] ∧ g.f2 = [])
def Canon (g : Ge) : Prop := ∀ h ∈ geos g, CanonAt h
def flatN (g : Ge) : List Nd := (geos g).map nodeOf
theorem flatN_eq (g : Ge) : flatN g = nodeOf g :: (g.f3.map flatN).flatten := by
  unfold flatN
  rw [geos_eq, List.map_cons, List.map_flatten, List.map_map]
  rfl
theorem Canon.at_ {g : Ge} (h : Canon g) : CanonAt g := h g (by rw [geos_eq]; exact List.mem_cons_self)
theorem Canon.part {g p : Ge} (h : Canon g) (hp : p ∈ g.f3) : Canon p := fun q hq => h q (by
  rw [geos_eq]
  exact List.mem_cons_of_mem _ (List.mem_flatten.2 ⟨geos p, List.mem_map_of_mem hp, hq⟩))
theorem Canon.mk {g : Ge} (h : CanonAt g) (hp : ∀ p ∈ g.f3, Canon p) : Canon g := by
  intro q hq
  rw [geos_eq] at hq
  rcases List.mem_cons.1 hq with rfl | hq
  · exact h
  · obtain ⟨l, hl, hq⟩ := List.mem_flatten.1 hq
    obtain ⟨p, hp2, rfl⟩ := List.mem_map.1 hl
    exact hp p hp2 q hq
def ndW (x : Nd) : Nat := 1 + x.f1.length + x.f2.length
def ndsW (l : List Nd) : Nat := (l.map ndW).sum
theorem ndsW_append (a b : List Nd) : ndsW (a ++ b) = ndsW a + ndsW b := by unfold ndsW; rw [List.map_append, List.sum_append]
theorem ndsW_cons (x : Nd) (l : List Nd) : ndsW (x :: l) = ndW x + ndsW l := by unfold ndsW; rw [List.map_cons, List.sum_cons]
theorem canon_W {g : Ge} (h : Canon g) : g.bulk ≤ ndsW (flatN g) := by
  induction g using Ge.ind with
  | h g ih =>
    have hL : ∀ ps : List Ge, (∀ p ∈ ps, p ∈ g.f3) → bulks ps ≤ ndsW (ps.map flatN).flatten := by
      intro ps
      induction ps with
      | nil => intro _; simp [bulks]
      | cons p ps ihp =>
        intro hp
        have h1 := ih p (hp p List.mem_cons_self) (h.part (hp p List.mem_cons_self))
        have h2 := ihp (fun q hq => hp q (List.mem_cons_of_mem _ hq))
        simp only [bulks, List.map_cons, List.flatten_cons, ndsW_append]
        omega
    have h1 := hL g.f3 (fun _ h => h)
    rw [flatN_eq, ndsW_cons, g.bulk_eq]
    have hc := h.at_
    have hw : 1 + g.f1.length + (g.f2.length + g.f2.flatten.length) ≤ ndW (nodeOf g) := by
      unfold ndW nodeOf
      dsimp only
      obtain ⟨hk, c1, c2, c3⟩ := hc
      by_cases k2 : g.f0 ≤ 2
      · obtain ⟨e2, _⟩ := c1 k2
        rw [sizesOf_1 (by omega), lineOf_o (by omega), e2]
        simp
      · by_cases k3 : g.f0 = 3
        · rw [sizesOf_3 k3, lineOf_3 k3]
          unfold own
          rw [List.length_map, List.length_append]
          omega
        · obtain ⟨e1, e2⟩ := c3 (by omega)
          rw [e1, e2]
          simp
          omega
    omega
theorem soundL_pts : ∀ (s : List Int) (left : Int), soundL true left s = true → (∀ k ∈ s, 0 ≤ k) ∧ s.sum = left := by
  intro s
  induction s with
  | nil => intro left h; unfold soundL at h; simp at h; exact ⟨fun k hk => (by cases hk), h.symm⟩
  | cons k s ih =>
    intro left h
    unfold soundL at h
    split at h
    · cases h
    · rw [if_pos rfl] at h
      split at h
      · cases h
      · obtain ⟨h1, h2⟩ := ih _ h
        refine ⟨fun j hj => ?_, by rw [List.sum_cons, h2]; omega⟩
        rcases List.mem_cons.1 hj with rfl | hj
        · omega
        · exact h1 j hj
/-- A list of points cut by sizes. -/
def cuts : List Pt → List Int → List (List Pt)
  | _, [] => []
  | l, k :: s => l.take k.toNat :: cuts (l.drop k.toNat) s
theorem cuts_spec : ∀ (s : List Int) (l : List Pt), (∀ k ∈ s, 0 ≤ k) → s.sum = (l.length : Int) → (cuts l s).flatten = l ∧ (cuts l s).map (fun r => (r.length : Int)) = s := by
  intro s
  induction s with
  | nil => intro l _ h; rw [List.sum_nil] at h; have : l = [] := List.length_eq_zero_iff.1 (by omega); subst this; exact ⟨rfl, rfl⟩
  | cons k s ih =>
    intro l h0 h
    rw [List.sum_cons] at h
    have hk := h0 k List.mem_cons_self
    have hs : 0 ≤ s.sum := by
      clear ih h
      induction s with
      | nil => simp
      | cons j s ih2 =>
        rw [List.sum_cons]
        have := h0 j (List.mem_cons_of_mem _ List.mem_cons_self)
        have := ih2 (fun q hq => h0 q (by
          rcases List.mem_cons.1 hq with rfl | hq
          · exact List.mem_cons_self
          · exact List.mem_cons_of_mem _ (List.mem_cons_of_mem _ hq)))
        omega
    obtain ⟨e1, e2⟩ := ih (l.drop k.toNat) (fun q hq => h0 q (List.mem_cons_of_mem _ hq)) (by rw [List.length_drop]; omega)
    unfold cuts
    rw [List.flatten_cons, List.map_cons, e1, e2, List.take_append_drop, List.length_take]
    exact ⟨rfl, by congr 1; omega⟩
theorem growE_trees : ∀ (m : Nat) (l : List Nd) (n k : Nat), l.length ≤ m → growE n k l = none → ∃ gs : List Ge, gs.length = n ∧ (gs.map flatN).flatten = l ∧ ∀ g ∈ gs, Canon g := by
  intro m
  induction m with
  | zero =>
    intro l n k hm h
    have : l = [] := List.length_eq_zero_iff.1 (by omega)
    subst this
    cases n with
    | zero => exact ⟨[], rfl, rfl, fun g hg => by cases hg⟩
    | succ n => cases h
  | succ m ih =>
    intro l n k hm h
    cases l with
    | nil =>
      cases n with
      | zero => exact ⟨[], rfl, rfl, fun g hg => by cases hg⟩
      | succ n => cases h
    | cons x l =>
      cases n with
      | zero => cases h
      | succ n =>
        unfold growE at h
        split at h
        · rename_i hs
          obtain ⟨gs, hl, hf, hc⟩ := ih l (n + arity x) (k + 1) (by simpa using hm) h
          unfold soundB at hs
          simp only [Bool.and_eq_true, kindB, decide_eq_true_iff, Bool.or_eq_true] at hs
          obtain ⟨hk, h1, h2⟩ := hs
          by_cases k3 : x.f0 ≤ 3
          · rw [decide_eq_true k3] at h2
            obtain ⟨p0, ps⟩ := soundL_pts _ _ h2
            have ha : arity x = 0 := by unfold arity; rw [if_neg (by omega)]
            rw [ha, Nat.add_zero] at hl
            by_cases e3 : x.f0 = 3
            · obtain ⟨c1, c2⟩ := cuts_spec x.f1 x.f2 p0 ps
              have hn : nodeOf ⟨x.f0, [], cuts x.f2 x.f1, []⟩ = x := by
                unfold nodeOf
                rw [sizesOf_3 e3, lineOf_3 e3]
                unfold own
                dsimp only
                rw [c2, c1]
                rfl
              refine ⟨⟨x.f0, [], cuts x.f2 x.f1, []⟩ :: gs, by simp [hl], ?_, fun g hg => ?_⟩
              · rw [List.map_cons, List.flatten_cons, hf, flatN_eq, hn]; rfl
              · rcases List.mem_cons.1 hg with rfl | hg
                · refine Canon.mk ⟨hk, fun h => ?_, fun _ => ⟨rfl, rfl⟩, fun h => ?_⟩ (fun p hp => by cases hp)
                  · exfalso; dsimp only at h; omega
                  · exfalso; dsimp only at h; omega
                · exact hc g hg
            · have hlen : x.f1.length = 1 := h1.resolve_left e3
              obtain ⟨a, ha1⟩ : ∃ a, x.f1 = [a] := by
                cases hx : x.f1 with
                | nil => rw [hx] at hlen; cases hlen
                | cons a t => rw [hx] at hlen; cases t with
                  | nil => exact ⟨a, rfl⟩
                  | cons b t => simp at hlen
              have haL : a = (x.f2.length : Int) := by rw [ha1] at ps; simpa using ps
              have hn : nodeOf ⟨x.f0, x.f2, [], []⟩ = x := by
                unfold nodeOf
                rw [sizesOf_1 (by dsimp only; omega), lineOf_o e3]
                dsimp only
                rw [← haL, ← ha1]
              refine ⟨⟨x.f0, x.f2, [], []⟩ :: gs, by simp [hl], ?_, fun g hg => ?_⟩
              · rw [List.map_cons, List.flatten_cons, hf, flatN_eq, hn]; rfl
              · rcases List.mem_cons.1 hg with rfl | hg
                · refine Canon.mk ⟨hk, fun _ => ⟨rfl, rfl⟩, fun h => absurd h e3, fun h => ?_⟩ (fun p hp => by cases hp)
                  exfalso; dsimp only at h; omega
                · exact hc g hg
          · rw [decide_eq_false k3] at h2
            have hlen : x.f1.length = 1 := h1.resolve_left (by omega)
            obtain ⟨a, ha1⟩ : ∃ a, x.f1 = [a] := by
              cases hx : x.f1 with
              | nil => rw [hx] at hlen; cases hlen
              | cons a t => rw [hx] at hlen; cases t with
                | nil => exact ⟨a, rfl⟩
                | cons b t => simp at hlen
            rw [ha1] at h2
            unfold soundL at h2
            split at h2
            · cases h2
            · rename_i ha0
              rw [if_neg (by decide)] at h2
              unfold soundL at h2
              have hf2 : x.f2 = [] := List.length_eq_zero_iff.1 (by simpa using h2)
              have har : arity x = a.toNat := by unfold arity; rw [if_pos (by omega), ha1]; rfl
              rw [har] at hl
              have htl : (gs.take a.toNat).length = a.toNat := by rw [List.length_take]; omega
              have hn : nodeOf ⟨x.f0, [], [], gs.take a.toNat⟩ = x := by
                unfold nodeOf
                rw [sizesOf_4 (by dsimp only; omega) (by dsimp only; omega) (by dsimp only; omega), lineOf_o (by dsimp only; omega)]
                dsimp only
                rw [htl, show ((a.toNat : Nat) : Int) = a by omega, ← ha1, ← hf2]
              refine ⟨⟨x.f0, [], [], gs.take a.toNat⟩ :: gs.drop a.toNat, by rw [List.length_cons, List.length_drop]; omega, ?_, fun g hg => ?_⟩
              · rw [List.map_cons, List.flatten_cons, flatN_eq, hn]
                show x :: ((gs.take a.toNat).map flatN).flatten ++ ((gs.drop a.toNat).map flatN).flatten = x :: l
                rw [List.cons_append, ← List.flatten_append, ← List.map_append, List.take_append_drop, hf]
              · rcases List.mem_cons.1 hg with rfl | hg
                · refine Canon.mk ⟨hk, fun h => ?_, fun h => ?_, fun _ => ⟨rfl, rfl⟩⟩ (fun p hp => hc p (List.mem_of_mem_take hp))
                  · exfalso; dsimp only at h; omega
                  · exfalso; dsimp only at h; omega
                · exact hc g (List.mem_of_mem_drop hg)
        · cases h
theorem growE_tree {l : List Nd} (h : growE 1 0 l = none) : ∃ g, flatN g = l ∧ Canon g := by
  obtain ⟨gs, hl, hf, hc⟩ := growE_trees l.length l 1 0 (Nat.le_refl _) h
  cases gs with
  | nil => cases hl
  | cons g t =>
    cases t with
    | nil => exact ⟨g, by simpa using hf, hc g List.mem_cons_self⟩
    | cons b t => simp at hl
theorem soundL_rings : ∀ (r : List (List Pt)), soundL true (r.flatten.length : Int) (r.map fun x => (x.length : Int)) = true := by
  intro r
  induction r with
  | nil => rfl
  | cons a r ih =>
    rw [List.map_cons, List.flatten_cons, List.length_append]
    unfold soundL
    rw [if_neg (by omega), if_pos rfl, if_neg (by omega), show ((a.length + r.flatten.length : Nat) : Int) - (a.length : Int) = (r.flatten.length : Int) by omega]
    exact ih
theorem sound_node {g : Ge} (h : CanonAt g) : soundB (nodeOf g) = true ∧ arity (nodeOf g) = g.f3.length := by
  obtain ⟨hk, c1, c2, c3⟩ := h
  unfold soundB arity kindB nodeOf
  dsimp only
  rw [decide_eq_true hk.1, decide_eq_true hk.2]
  by_cases k2 : g.f0 ≤ 2
  · obtain ⟨e2, e3⟩ := c1 k2
    rw [sizesOf_1 (by omega), lineOf_o (by omega), e3, if_neg (by omega), decide_eq_true (show g.f0 ≤ 3 by omega)]
    refine ⟨?_, rfl⟩
    simp [soundL]
  · by_cases k3 : g.f0 = 3
    · obtain ⟨e1, e3⟩ := c2 k3
      rw [sizesOf_3 k3, lineOf_3 k3, e3, if_neg (by omega), decide_eq_true (show g.f0 ≤ 3 by omega), decide_eq_true k3]
      unfold own
      rw [e1, List.nil_append, soundL_rings]
      exact ⟨rfl, rfl⟩
    · obtain ⟨e1, e2⟩ := c3 (by omega)
      rw [sizesOf_4 (by omega) (by omega) k3, lineOf_o k3, e1, if_pos (by omega), decide_eq_false (show ¬ g.f0 ≤ 3 by omega)]
      refine ⟨?_, by simp⟩
      simp [soundL]
theorem growE_flat : ∀ (g : Ge), Canon g → ∀ (n k : Nat) (rest : List Nd), growE (n + 1) k (flatN g ++ rest) = growE n (k + (flatN g).length) rest := by
  intro g
  induction g using Ge.ind with
  | h g ih =>
    intro hc n k rest
    obtain ⟨h1, h2⟩ := sound_node hc.at_
    rw [flatN_eq, List.cons_append, growE_cons, if_pos h1, h2]
    have hL : ∀ (ps : List Ge), (∀ p ∈ ps, p ∈ g.f3) → ∀ (n k : Nat), growE (n + ps.length) k ((ps.map flatN).flatten ++ rest) = growE n (k + (ps.map flatN).flatten.length) rest := by
      intro ps
      induction ps with
      | nil => intro _ n k; simp
      | cons p ps ihp =>
        intro hp n k
        rw [List.map_cons, List.flatten_cons, List.append_assoc, List.length_cons, ← Nat.add_assoc]
        rw [ih p (hp p List.mem_cons_self) (hc.part (hp p List.mem_cons_self)) (n + ps.length) k]
        rw [ihp (fun q hq => hp q (List.mem_cons_of_mem _ hq)), List.length_append, Nat.add_assoc]
    rw [hL g.f3 (fun _ h => h), List.length_cons, show k + 1 + ((g.f3.map flatN).flatten).length = k + (((g.f3.map flatN).flatten).length + 1) by omega]
theorem growE_ok {g : Ge} (h : Canon g) : growE 1 0 (flatN g) = none := by
  have := growE_flat g h 0 0 []
  rw [List.append_nil] at this
  rw [this]
  rfl
end Go.Proofs.YtmcbniobbbjdjaaDoor.Tree
