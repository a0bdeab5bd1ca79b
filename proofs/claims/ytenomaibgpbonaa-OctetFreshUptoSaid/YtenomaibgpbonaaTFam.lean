/- Lists apart: a family of rows of one's own, no two of them in one block. No conditions but those told. -/
import Derived.Test.YtenomaibgpbonaaTAppend
namespace Go.Proofs.Ytenomaibgpbonaa.Tree
open Go.RowKit Go.Proofs.YtenomaibgpbonaaW.PrintWords Go.Proofs.YtenomaibgpbonaaW.PrintMore
set_option linter.unusedVariables false
/-- Two slices of different blocks. -/
def Far (u v : Value) : Prop := ∀ k, u.ownBlock = some k → v.ownBlock ≠ some k
theorem Far.symm {u v : Value} (h : Far u v) : Far v u := fun k hk he => h k he hk
/-- A row of one's own, its block alone. -/
def Row {α : Type} (d : Kd α) (e base : Nat) (W : World) (p : Value × List α) : Prop := d.R e W base (fun _ => True) p.1 p.2
def Fam {α : Type} (d : Kd α) (e base : Nat) (W : World) (L : List (Value × List α)) : Prop :=
  (∀ p ∈ L, Row d e base W p) ∧ L.Pairwise (fun p q => Far p.1 q.1)
section
variable {α β : Type} {d : Kd α} {d' : Kd β} {e e' base base' : Nat} {W W1 : World} {L : List (Value × List α)} {p q : Value × List α} {u : Value}
theorem Row.lt (h : Row d e base W p) : ∀ k, p.1.ownBlock = some k → k < W.heap.size := Kd.R_lt h
theorem Row.from_ (h : Row d e base W p) : ∀ k, p.1.ownBlock = some k → base ≤ k := Kd.R_base h
theorem Row.below (h : Row d e base W p) (hb : Below W.heap.size W W1) : Row d e base W1 p := Kd.R_below h hb
theorem Row.other (h : Row d e base W p) (hE : d.E = []) (hg : W.grownBy W1 u.ownBlock) (hf : Far p.1 u) : Row d e base W1 p :=
  Kd.R_grown2 h hE hg (fun k hk he => hf k he.symm hk)
/-- Rows of different types lie apart. -/
theorem Row.typed (h : Row d e base W p) {p' : Value × List β} (h' : Row d' e' base' W p') (hne : e ≠ e') : Far p.1 p'.1 := by
  intro k hk he
  obtain ⟨c1, h1⟩ := Kd.R_typed h k hk
  obtain ⟨c2, h2⟩ := Kd.R_typed h' k he
  rw [h1] at h2
  injection h2 with h2
  injection h2 with _ h2
  exact hne h2
/-- What is new lies apart from what was. -/
theorem Row.new (h : Row d e base W p) (h' : ∀ k, u.ownBlock = some k → W.heap.size ≤ k) : Far p.1 u := by
  intro k hk he
  have := h.lt k hk
  have := h' k he
  omega
theorem Fam.nil : Fam d e base W [] := ⟨fun _ h => by simp at h, .nil⟩
theorem Fam.row (h : Fam d e base W L) {i : Nat} (hi : L[i]? = some p) : Row d e base W p := h.1 p (List.mem_of_getElem? hi)
theorem Fam.below (h : Fam d e base W L) (hb : Below W.heap.size W W1) : Fam d e base W1 L := ⟨fun p hp => (h.1 p hp).below hb, h.2⟩
theorem Fam.other (h : Fam d e base W L) (hE : d.E = []) (hg : W.grownBy W1 u.ownBlock) (hf : ∀ p ∈ L, Far p.1 u) : Fam d e base W1 L := ⟨fun p hp => (h.1 p hp).other hE hg (hf p hp), h.2⟩
theorem Fam.typed (h : Fam d e base W L) (hE : d.E = []) {p' : Value × List β} (h' : Row d' e' base' W p') (hne : e ≠ e') (hg : W.grownBy W1 p'.1.ownBlock) : Fam d e base W1 L := h.other hE hg (fun p hp => (h.1 p hp).typed h' hne)
theorem Fam.far (h : Fam d e base W L) {i j : Nat} (hi : L[i]? = some p) (hj : L[j]? = some q) (hij : i ≠ j) : Far p.1 q.1 := by
  have hp := List.pairwise_iff_getElem.1 h.2
  obtain ⟨hi1, rfl⟩ := List.getElem?_eq_some_iff.1 hi
  obtain ⟨hj1, rfl⟩ := List.getElem?_eq_some_iff.1 hj
  rcases Nat.lt_or_gt_of_ne hij with h1 | h1
  · exact hp i j hi1 hj1 h1
  · exact (hp j i hj1 hi1 h1).symm
/-- One more, of a block of its own. -/
theorem Fam.push (h : Fam d e base W L) (hq : Row d e base W q) (hf : ∀ p ∈ L, Far p.1 q.1) : Fam d e base W (L ++ [q]) := by
  refine ⟨fun x hx => ?_, List.pairwise_append.2 ⟨h.2, List.pairwise_singleton _ _, fun a ha b hb => ?_⟩⟩
  · rcases List.mem_append.1 hx with hx | hx
    · exact h.1 x hx
    · rw [List.mem_singleton.1 hx]; exact hq
  · rw [List.mem_singleton.1 hb]
    exact hf a ha
theorem Fam.made (h : Fam d e base W L) (hb : Below W.heap.size W W1) {v : Value} {xs : List α} {ok : Nat → Prop} (hq : d.R e W1 W.heap.size ok v xs) (hbase : base ≤ W.heap.size) : Fam d e base W1 (L ++ [(v, xs)]) :=
  (h.below hb).push (Kd.R_lower (Kd.R_mono hq (fun _ _ => trivial)) hbase) (fun p hp => (h.1 p hp).new (Kd.R_base hq))
/-- One of the rows is changed, or grows. -/
theorem Fam.set (h : Fam d e base W L) (hE : d.E = []) {i : Nat} (hi : L[i]? = some p) (hg : W.grownBy W1 p.1.ownBlock) (hq : Row d e base W1 q) (hat : q.1.ownBlock = p.1.ownBlock ∨ ∃ b, q.1.ownBlock = some b ∧ W.heap.size ≤ b) : Fam d e base W1 (L.set i q) := by
  have far : ∀ (j : Nat) (r : Value × List α), L[j]? = some r → j ≠ i → Far r.1 q.1 := by
    intro j r hj hne
    rcases hat with hat | ⟨b, hb, hle⟩
    · intro k hk he
      exact h.far hj hi hne k hk (hat ▸ he)
    · refine (h.row hj).new (fun k hk => ?_)
      rw [hb] at hk
      injection hk with hk
      omega
  have at_ : ∀ (j : Nat) (r : Value × List α), (L.set i q)[j]? = some r → (j = i ∧ r = q) ∨ (j ≠ i ∧ L[j]? = some r) := by
    intro j r hj
    by_cases hij : i = j
    · subst hij
      rw [List.getElem?_set_self (List.getElem?_eq_some_iff.1 hi).1] at hj
      exact .inl ⟨rfl, (Option.some.inj hj).symm⟩
    · rw [List.getElem?_set_ne hij] at hj
      exact .inr ⟨fun e => hij e.symm, hj⟩
  refine ⟨fun r hr => ?_, List.pairwise_iff_getElem.2 fun a b ha hb hab => ?_⟩
  · obtain ⟨j, hj⟩ := List.mem_iff_getElem?.1 hr
    rcases at_ j r hj with ⟨_, rfl⟩ | ⟨hne, hj⟩
    · exact hq
    · exact (h.row hj).other hE hg (h.far hj hi hne)
  · rcases at_ a _ (List.getElem?_eq_getElem ha) with ⟨rfl, e1⟩ | ⟨hne, hj⟩
    · rcases at_ b _ (List.getElem?_eq_getElem hb) with ⟨rfl, _⟩ | ⟨hne', hj'⟩
      · omega
      · rw [e1]; exact (far b _ hj' hne').symm
    · rcases at_ b _ (List.getElem?_eq_getElem hb) with ⟨rfl, e2⟩ | ⟨hne', hj'⟩
      · rw [e2]; exact far a _ hj hne
      · exact h.far hj hj' (by omega)
end
/-- A slice's head: address, length, room. -/
abbrev Hd := Option Addr × Nat × Nat
def hd (h : Hd) : Value := .slice h.1 h.2.1 h.2.2
theorem hd_one (h : Hd) : (hd h).oneCell' = true := rfl
/-- Rows of slices, by their heads alone. -/
def kH : Kd Hd := Kd.scalar hd hd_one
def hdOf : Value → Hd
  | .slice A n c => (A, n, c)
  | _ => (none, 0, 0)
end Go.Proofs.Ytenomaibgpbonaa.Tree
