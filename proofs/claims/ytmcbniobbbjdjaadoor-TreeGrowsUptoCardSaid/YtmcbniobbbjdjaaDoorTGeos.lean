/- Trees in plain Lean: geometries in the order of the text by recursion, levels, points. No conditions. -/
import Derived.Test.YtmcbniobbbjdjaaDoorTPoints
namespace Go.Proofs.YtmcbniobbbjdjaaDoor.Tree
open Go.RowKit Go.Proofs.YtmcbniobbbjdjaaDoorW.PrintWords Go.Proofs.YtmcbniobbbjdjaaDoorW.PrintLast Go.Proofs.YtmcbniobbbjdjaaDoorW.PrintMore
set_option linter.unusedVariables false
/-- The geometries alone. -/
def geos (g : Ge) : List Ge := (nodes g 1 0).map fun x => x.f0
theorem nodes_geos (g : Ge) : ∀ lvl of_ : Int, (nodes g lvl of_).map (fun x => x.f0) = geos g := by
  induction g using Ge.ind with
  | h g ih =>
    have : ∀ lvl of_ : Int, (nodes g lvl of_).map (fun x => x.f0) = g :: (g.f3.map geos).flatten := by
      intro lvl of_
      rw [nodes_eq, List.map_cons, nodesL_flat, List.map_flatten, List.map_map]
      congr 2
      refine List.map_congr_left fun p hp => ?_
      exact ih p hp _ _
    intro lvl of_
    rw [this, ← this 1 0]; rfl
theorem geos_eq (g : Ge) : geos g = g :: (g.f3.map geos).flatten := by
  unfold geos
  rw [nodes_eq, List.map_cons, nodesL_flat, List.map_flatten, List.map_map]
  congr 2
  refine List.map_congr_left fun p hp => ?_
  exact nodes_geos p _ _
theorem geos_len (g : Ge) : (geos g).length = (nodes g 1 0).length := by unfold geos; rw [List.length_map]
/-- All points. -/
def allPts (g : Ge) : List Pt := ((geos g).map own).flatten
theorem allPts_nodes (g : Ge) : allPts g = ptsAll (nodes g 1 0) := by unfold allPts geos ptsAll; rw [List.map_map]; rfl
theorem allPts_eq (g : Ge) : allPts g = own g ++ (g.f3.map allPts).flatten := by
  unfold allPts
  rw [geos_eq, List.map_cons, List.flatten_cons, List.map_flatten, List.flatten_flatten, List.map_map, List.map_map]
  rfl
theorem pts_bulk (g : Ge) : (allPts g).length + (geos g).length ≤ g.bulk := by
  induction g using Ge.ind with
  | h g ih =>
    have hL : ∀ ps : List Ge, (∀ p ∈ ps, p ∈ g.f3) → (ps.map allPts).flatten.length + (ps.map geos).flatten.length ≤ bulks ps := by
      intro ps
      induction ps with
      | nil => intro _; simp [bulks]
      | cons p ps ihp =>
        intro h
        simp only [List.map_cons, List.flatten_cons, List.length_append, bulks]
        have h1 := ih p (h p List.mem_cons_self)
        have h2 := ihp (fun q hq => h q (List.mem_cons_of_mem _ hq))
        omega
    have h1 := hL g.f3 (fun _ h => h)
    have h2 := g.bulk_eq
    rw [allPts_eq, geos_eq, List.length_append, List.length_cons]
    unfold own
    rw [List.length_append]
    omega
/-- The greatest level from m on. -/
def hi (l : List It) (m : Int) : Int := l.foldl (fun m x => max m x.f1) m
theorem hi_append (a b : List It) (m : Int) : hi (a ++ b) m = hi b (hi a m) := by unfold hi; rw [List.foldl_append]
theorem hi_cons (x : It) (l : List It) (m : Int) : hi (x :: l) m = hi l (max m x.f1) := rfl
theorem deepest_hi (l : List It) : deepest l = hi l 0 := by
  have : ∀ (l : List It) (m : Int), l.foldl (fun m x => if m < x.f1 then x.f1 else m) m = l.foldl (fun m x => max m x.f1) m := by
    intro l
    induction l with
    | nil => intro m; rfl
    | cons x l ih =>
      intro m
      rw [List.foldl_cons, List.foldl_cons, ih]
      congr 1
      split <;> omega
  exact this l 0
def hiP (ps : List Ge) (lvl m : Int) : Int := ps.foldl (fun m p => max m (lvl + depthOf p - 1)) m
theorem hi_nodes (g : Ge) : 1 ≤ depthOf g ∧ ∀ lvl of_ m : Int, hi (nodes g lvl of_) m = max m (lvl + depthOf g - 1) := by
  induction g using Ge.ind with
  | h g ih =>
    have hL : ∀ ps : List Ge, (∀ p ∈ ps, p ∈ g.f3) → ∀ lvl k m : Int, hi (nodesL ps lvl k) m = hiP ps lvl m := by
      intro ps
      induction ps with
      | nil => intro _ lvl k m; rfl
      | cons p ps ihp =>
        intro h lvl k m
        simp only [nodesL]
        rw [hi_append, (ih p (h p List.mem_cons_self)).2, ihp (fun q hq => h q (List.mem_cons_of_mem _ hq))]
        rfl
    have hS : ∀ (ps : List Ge) (lvl m c : Int), hiP ps (lvl + c) (m + c) = hiP ps lvl m + c := by
      intro ps
      induction ps with
      | nil => intro lvl m c; rfl
      | cons p ps ihp =>
        intro lvl m c
        unfold hiP
        rw [List.foldl_cons, List.foldl_cons]
        have := ihp lvl (max m (lvl + depthOf p - 1)) c
        unfold hiP at this
        rw [← this]
        congr 1
        omega
    have hM : ∀ (ps : List Ge) (lvl m a : Int), hiP ps lvl (max a m) = max a (hiP ps lvl m) := by
      intro ps
      induction ps with
      | nil => intro lvl m a; rfl
      | cons p ps ihp =>
        intro lvl m a
        unfold hiP
        rw [List.foldl_cons, List.foldl_cons]
        have := ihp lvl (max m (lvl + depthOf p - 1)) a
        unfold hiP at this
        rw [← this]
        congr 1
        omega
    have hG : ∀ (ps : List Ge) (lvl m : Int), m ≤ hiP ps lvl m := by
      intro ps lvl m
      have := hM ps lvl m m
      rw [show max m m = m by omega] at this
      omega
    have hd : depthOf g = hiP g.f3 2 1 := by
      unfold depthOf
      rw [deepest_hi, nodes_eq, hi_cons, hL g.f3 (fun _ h => h)]
      rfl
    refine ⟨by rw [hd]; exact hG _ _ _, fun lvl of_ m => ?_⟩
    rw [nodes_eq, hi_cons, hL g.f3 (fun _ h => h), hM]
    show max m (hiP g.f3 (lvl + 1) lvl) = _
    have := hS g.f3 2 1 (lvl - 1)
    rw [show (2 : Int) + (lvl - 1) = lvl + 1 by omega, show (1 : Int) + (lvl - 1) = lvl by omega] at this
    rw [this, hd]
    omega
theorem depth_eq (g : Ge) : depthOf g = hiP g.f3 2 1 := by
  unfold depthOf
  rw [deepest_hi, nodes_eq, hi_cons]
  have hL : ∀ (ps : List Ge) (lvl k m : Int), hi (nodesL ps lvl k) m = hiP ps lvl m := by
    intro ps
    induction ps with
    | nil => intro lvl k m; rfl
    | cons p ps ihp =>
      intro lvl k m
      simp only [nodesL]
      rw [hi_append, (hi_nodes p).2, ihp]
      rfl
  exact hL _ _ _ _
theorem depth_pos (g : Ge) : 1 ≤ depthOf g := (hi_nodes g).1
theorem hiP_snoc (ps : List Ge) (p : Ge) (lvl m : Int) : hiP (ps ++ [p]) lvl m = max (hiP ps lvl m) (lvl + depthOf p - 1) := by unfold hiP; rw [List.foldl_append]; rfl
theorem depth_le (g : Ge) : depthOf g ≤ g.bulk := by
  have h : ∀ (l : List It) (m b : Int), m ≤ b → (∀ y ∈ l, y.f1 ≤ b) → hi l m ≤ b := by
    intro l
    induction l with
    | nil => intro m b h _; exact h
    | cons x l ih =>
      intro m b h1 h2
      rw [hi_cons]
      exact ih _ b (by have := h2 x List.mem_cons_self; omega) (fun y hy => h2 y (List.mem_cons_of_mem _ hy))
  have hb : ∀ (g : Ge) (lvl of_ : Int), ∀ y ∈ nodes g lvl of_, y.f1 + y.f0.bulk ≤ lvl + g.bulk := fun g lvl of_ => nodes_all (P := fun y => y.f1 + y.f0.bulk ≤ lvl + g.bulk) g lvl of_ (fun h l o h1 h2 h3 => h3)
  unfold depthOf
  rw [deepest_hi]
  refine h _ 0 _ (by omega) (fun y hy => ?_)
  have h1 := hb g 1 0 y hy
  have h2 := y.f0.bulk_eq
  omega
end Go.Proofs.YtmcbniobbbjdjaaDoor.Tree
