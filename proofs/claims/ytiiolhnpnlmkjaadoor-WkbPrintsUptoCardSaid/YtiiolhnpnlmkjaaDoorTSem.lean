/- Trees in plain Lean: what they weigh, their own points, their geometries in the order of the text. No conditions. -/
import Derived.Test.YtiiolhnpnlmkjaaDoorTBase
namespace Go.Proofs.YtiiolhnpnlmkjaaDoor.Tree
set_option linter.unusedVariables false
mutual
/-- What a tree weighs: geometries, lists, points. -/
def Ge.bulk : Ge → Nat
  | ⟨_, l, r, ps⟩ => 1 + l.length + (r.length + r.flatten.length) + bulks ps
def bulks : List Ge → Nat
  | [] => 0
  | p :: ps => p.bulk + bulks ps
end
theorem Ge.bulk_eq (g : Ge) : g.bulk = 1 + g.f1.length + (g.f2.length + g.f2.flatten.length) + bulks g.f3 := by
  cases g; simp only [Ge.bulk]
theorem bulks_mem {p : Ge} {ps : List Ge} (h : p ∈ ps) : p.bulk ≤ bulks ps := by
  induction ps with
  | nil => cases h
  | cons q ps ih =>
    simp only [bulks]
    rcases List.mem_cons.1 h with rfl | h
    · omega
    · have := ih h; omega
theorem bulks_len (ps : List Ge) : ps.length ≤ bulks ps := by
  induction ps with
  | nil => simp [bulks]
  | cons p ps ih =>
    simp only [bulks, List.length_cons]
    have := Ge.bulk_eq p
    omega
theorem bulks_append (ps qs : List Ge) : bulks (ps ++ qs) = bulks ps + bulks qs := by
  induction ps with
  | nil => simp [bulks]
  | cons p ps ih => simp only [bulks, List.cons_append, ih]; omega
/-- Induction over trees. -/
theorem Ge.ind {P : Ge → Prop} (h : ∀ g : Ge, (∀ p ∈ g.f3, P p) → P g) : ∀ g, P g := by
  have : ∀ n (g : Ge), g.bulk ≤ n → P g := by
    intro n
    induction n with
    | zero => intro g hg; have := g.bulk_eq; omega
    | succ n ih =>
      intro g hg
      exact h g (fun p hp => ih p (by have := g.bulk_eq; have := bulks_mem hp; omega))
  exact fun g => this _ g (Nat.le_refl _)
/-- A geometry's own points. -/
def own (g : Ge) : List Pt := g.f1 ++ g.f2.flatten
theorem own_len (g : Ge) : (own g).length + g.f3.length + 1 ≤ g.bulk := by
  have := g.bulk_eq; have := bulks_len g.f3; simp only [own, List.length_append]; omega
mutual
/-- The geometries in the order of the text, with their levels and what they are parts of. -/
def nodes : Ge → Int → Int → List It
  | ⟨k, l, r, ps⟩, lvl, of_ => ⟨⟨k, l, r, ps⟩, lvl, of_⟩ :: nodesL ps (lvl + 1) k
def nodesL : List Ge → Int → Int → List It
  | [], _, _ => []
  | p :: ps, lvl, k => nodes p lvl k ++ nodesL ps lvl k
end
theorem nodes_eq (g : Ge) (lvl of_ : Int) : nodes g lvl of_ = ⟨g, lvl, of_⟩ :: nodesL g.f3 (lvl + 1) g.f0 := by
  cases g; simp only [nodes]
theorem nodesL_append (ps qs : List Ge) (lvl k : Int) : nodesL (ps ++ qs) lvl k = nodesL ps lvl k ++ nodesL qs lvl k := by
  induction ps with
  | nil => simp [nodesL]
  | cons p ps ih => simp only [nodesL, List.cons_append, ih, List.append_assoc]
theorem nodesL_flat (ps : List Ge) (lvl k : Int) : nodesL ps lvl k = (ps.map fun p => nodes p lvl k).flatten := by
  induction ps with
  | nil => simp [nodesL]
  | cons p ps ih => simp only [nodesL, List.map_cons, List.flatten_cons, ih]
theorem nodes_all {P : It → Prop} (g : Ge) : ∀ lvl of_ : Int, (∀ (h : Ge) (l o : Int), h.bulk ≤ g.bulk → lvl ≤ l → l + h.bulk ≤ lvl + g.bulk → P ⟨h, l, o⟩) → ∀ y ∈ nodes g lvl of_, P y := by
  induction g using Ge.ind with
  | h g ih =>
    intro lvl of_ hP y hy
    rw [nodes_eq] at hy
    rcases List.mem_cons.1 hy with rfl | hy
    · exact hP g lvl of_ (Nat.le_refl _) (Int.le_refl _) (by omega)
    · rw [nodesL_flat] at hy
      obtain ⟨l, hl, hy⟩ := List.mem_flatten.1 hy
      obtain ⟨p, hp, rfl⟩ := List.mem_map.1 hl
      have hb := bulks_mem hp
      have hq := g.bulk_eq
      exact ih p hp (lvl + 1) g.f0 (fun h l o h1 h2 h3 => hP h l o (by omega) (by omega) (by omega)) y hy
theorem nodes_bulk {g : Ge} {lvl of_ : Int} {y : It} (h : y ∈ nodes g lvl of_) : y.f0.bulk ≤ g.bulk := nodes_all (P := fun y => y.f0.bulk ≤ g.bulk) g lvl of_ (fun _ _ _ h _ _ => h) y h
theorem nodes_lvl {g : Ge} {lvl of_ : Int} {y : It} (h : y ∈ nodes g lvl of_) : lvl ≤ y.f1 ∧ y.f1 ≤ lvl + g.bulk := nodes_all (P := fun y => lvl ≤ y.f1 ∧ y.f1 ≤ lvl + g.bulk) g lvl of_ (fun h l o _ h2 h3 => ⟨h2, by show l ≤ _; omega⟩) y h
theorem nodes_len (g : Ge) : ∀ lvl of_ : Int, (nodes g lvl of_).length ≤ g.bulk := by
  induction g using Ge.ind with
  | h g ih =>
    intro lvl of_
    rw [nodes_eq, List.length_cons]
    have hq := g.bulk_eq
    have : ∀ ps : List Ge, (∀ p ∈ ps, p ∈ g.f3) → (nodesL ps (lvl + 1) g.f0).length ≤ bulks ps := by
      intro ps
      induction ps with
      | nil => intro _; simp [nodesL, bulks]
      | cons p ps ihp =>
        intro h
        simp only [nodesL, bulks, List.length_append]
        have h1 := ih p (h p List.mem_cons_self) (lvl + 1) g.f0
        have h2 := ihp (fun q hq => h q (List.mem_cons_of_mem _ hq))
        omega
    have := this g.f3 (fun _ h => h)
    omega
/-- All points of geometries together. -/
def ptsOf (l : List It) : Nat := l.foldl (fun n x => n + (own x.f0).length) 0
theorem ptsOf_snoc (l : List It) (x : It) : ptsOf (l ++ [x]) = ptsOf l + (own x.f0).length := by unfold ptsOf; rw [List.foldl_append]; rfl
theorem ptsOf_le (l : List It) (b : Nat) (h : ∀ y ∈ l, (own y.f0).length ≤ b) : ptsOf l ≤ l.length * b := by
  have : ∀ (l : List It) (m : Nat), (∀ y ∈ l, (own y.f0).length ≤ b) → l.foldl (fun n x => n + (own x.f0).length) m ≤ m + l.length * b := by
    intro l
    induction l with
    | nil => intro m _; simp
    | cons x l ih =>
      intro m h
      rw [List.foldl_cons, List.length_cons, Nat.add_mul]
      have h1 := ih (m + (own x.f0).length) (fun y hy => h y (List.mem_cons_of_mem _ hy))
      have h2 := h x List.mem_cons_self
      omega
  have := this l 0 h
  rw [Nat.zero_add] at this
  exact this
end Go.Proofs.YtiiolhnpnlmkjaaDoor.Tree
