/- Flat and grown again, in plain Lean. No conditions but those told. -/
import Derived.Test.YtmcbniobbbjdjaaDoorTGrowSem
import Derived.Test.YtmcbniobbbjdjaaDoorTRFlat
import Derived.Test.YtmcbniobbbjdjaaDoorTGrow
namespace Go.Proofs.YtmcbniobbbjdjaaDoor.Tree
open Go.RowKit Go.Proofs.YtmcbniobbbjdjaaDoorW.PrintWords Go.Proofs.YtmcbniobbbjdjaaDoorW.PrintLast Go.Proofs.YtmcbniobbbjdjaaDoorW.PrintMore
set_option linter.unusedVariables false
set_option linter.unusedSimpArgs false
theorem rings_inj : ∀ (a b : List (List Pt)), a.map (fun r => (r.length : Int)) = b.map (fun r => (r.length : Int)) → a.flatten = b.flatten → a = b := by
  intro a
  induction a with
  | nil => intro b h _; cases b with
    | nil => rfl
    | cons y b => cases h
  | cons x a ih =>
    intro b h hf
    cases b with
    | nil => cases h
    | cons y b =>
      rw [List.map_cons, List.map_cons] at h
      obtain ⟨h1, h2⟩ := List.cons.inj h
      rw [List.flatten_cons, List.flatten_cons] at hf
      obtain ⟨e1, e2⟩ := List.append_inj hf (by omega)
      rw [e1, ih b h2 e2]
theorem canon_inj {a b : Ge} (ha : CanonAt a) (hb : CanonAt b) (hn : nodeOf a = nodeOf b) (h3 : a.f3 = b.f3) : a = b := by
  obtain ⟨k, l, r, p⟩ := a
  obtain ⟨k', l', r', p'⟩ := b
  dsimp only at h3
  subst h3
  have e0 : k = k' := congrArg Nd.f0 hn
  subst e0
  have e1 := congrArg Nd.f1 hn
  have e2 := congrArg Nd.f2 hn
  unfold nodeOf at e1 e2
  dsimp only at e1 e2
  obtain ⟨_, a1, a2, a3⟩ := ha
  obtain ⟨_, b1, b2, b3⟩ := hb
  dsimp only at a1 a2 a3 b1 b2 b3
  by_cases k2 : k ≤ 2
  · rw [lineOf_o (by dsimp only; omega), lineOf_o (by dsimp only; omega)] at e2
    dsimp only at e2
    rw [e2, (a1 k2).1, (b1 k2).1]
  · by_cases k3 : k = 3
    · rw [lineOf_3 k3, lineOf_3 k3] at e2
      rw [sizesOf_3 k3, sizesOf_3 k3] at e1
      unfold own at e2
      dsimp only at e1 e2
      rw [(a2 k3).1, (b2 k3).1, List.nil_append, List.nil_append] at e2
      rw [(a2 k3).1, (b2 k3).1, rings_inj r r' e1 e2]
    · rw [(a3 (by omega)).1, (b3 (by omega)).1, (a3 (by omega)).2, (b3 (by omega)).2]
theorem flatNs_inj : ∀ (n : Nat) (gs hs : List Ge) (r1 r2 : List Nd), (gs.map flatN).flatten.length ≤ n → (∀ g ∈ gs, Canon g) → (∀ h ∈ hs, Canon h) → gs.length = hs.length →
    (gs.map flatN).flatten ++ r1 = (hs.map flatN).flatten ++ r2 → gs = hs ∧ r1 = r2 := by
  intro n
  induction n with
  | zero =>
    intro gs hs r1 r2 hn _ _ hl he
    cases gs with
    | nil =>
      cases hs with
      | nil => exact ⟨rfl, he⟩
      | cons h hs => cases hl
    | cons g gs =>
      rw [List.map_cons, List.flatten_cons, flatN_eq] at hn
      simp at hn
  | succ n ih =>
    intro gs hs r1 r2 hn hg hh hl he
    cases gs with
    | nil =>
      cases hs with
      | nil => exact ⟨rfl, he⟩
      | cons h hs => cases hl
    | cons g gs =>
      cases hs with
      | nil => cases hl
      | cons h hs =>
        rw [List.map_cons, List.flatten_cons, flatN_eq, List.length_append, List.length_cons] at hn
        rw [List.map_cons, List.map_cons, List.flatten_cons, List.flatten_cons, flatN_eq g, flatN_eq h, List.cons_append, List.cons_append, List.cons_append, List.cons_append, List.append_assoc, List.append_assoc] at he
        obtain ⟨h1, h2⟩ := List.cons.inj he
        have cg := hg g List.mem_cons_self
        have ch := hh h List.mem_cons_self
        have hlen : g.f3.length = h.f3.length := by
          rw [← (sound_node cg.at_).2, ← (sound_node ch.at_).2, h1]
        obtain ⟨q1, q2⟩ := ih g.f3 h.f3 _ _ (by omega) (fun p hp => cg.part hp) (fun p hp => ch.part hp) hlen h2
        obtain ⟨q3, q4⟩ := ih gs hs r1 r2 (by omega) (fun p hp => hg p (List.mem_cons_of_mem _ hp)) (fun p hp => hh p (List.mem_cons_of_mem _ hp)) (by simpa using hl) q2
        exact ⟨by rw [canon_inj cg.at_ ch.at_ h1 q1, q3], q4⟩
theorem flatN_inj {a b : Ge} (ha : Canon a) (hb : Canon b) (h : flatN a = flatN b) : a = b := by
  have := flatNs_inj (([a].map flatN).flatten.length) [a] [b] [] [] (Nat.le_refl _) (fun g hg => by rw [List.mem_singleton.1 hg]; exact ha) (fun g hg => by rw [List.mem_singleton.1 hg]; exact hb) rfl (by simpa using h)
  exact (List.cons.inj this.1).1
theorem canonAt_lists {g : Ge} (h : listsB g = true) : CanonAt g := by
  unfold listsB at h
  by_cases k1 : g.f0 = 1
  · rw [if_pos k1] at h
    simp only [Bool.and_eq_true, decide_eq_true_iff] at h
    exact ⟨by omega, fun _ => ⟨List.length_eq_zero_iff.1 h.1.2, List.length_eq_zero_iff.1 h.2⟩, fun _ => by omega, fun _ => by omega⟩
  · rw [if_neg k1] at h
    by_cases k2 : g.f0 = 2
    · rw [if_pos k2] at h
      simp only [Bool.and_eq_true, decide_eq_true_iff] at h
      exact ⟨by omega, fun _ => ⟨List.length_eq_zero_iff.1 h.1, List.length_eq_zero_iff.1 h.2⟩, fun _ => by omega, fun _ => by omega⟩
    · rw [if_neg k2] at h
      by_cases k3 : g.f0 = 3
      · rw [if_pos k3] at h
        simp only [Bool.and_eq_true, decide_eq_true_iff] at h
        exact ⟨by omega, fun _ => by omega, fun _ => ⟨List.length_eq_zero_iff.1 h.2.1, List.length_eq_zero_iff.1 h.2.2⟩, fun _ => by omega⟩
      · rw [if_neg k3] at h
        split at h
        · rename_i k4
          simp only [Bool.and_eq_true, decide_eq_true_iff] at h
          exact ⟨by omega, fun _ => by omega, fun _ => by omega, fun _ => ⟨List.length_eq_zero_iff.1 h.1, List.length_eq_zero_iff.1 h.2⟩⟩
        · cases h
theorem canon_check {g : Ge} (h : checkR g = none) : Canon g := by
  intro p hp
  obtain ⟨x, hx, rfl⟩ := List.mem_map.1 hp
  have hs := scan_shaped _ _ _ h x hx
  rw [shaped_eq, Bool.and_eq_true] at hs
  exact canonAt_lists hs.1
theorem flatL_canon {g : Ge} (h : checkR g = none) : flatL g = flatN g := by
  unfold flatL flatN geos
  rw [h, List.map_map]
  rfl
theorem grown_back {g : Ge} (h : checkR g = none) {w w' : World} {u ev : Value} (hr : GrowRes w w' (flatN g) u ev) : CopyOf g.bulk w w' u g ∧ ev = .nilIface := by
  unfold GrowRes at hr
  rw [growE_ok (canon_check h)] at hr
  obtain ⟨g', hf, hc, hm⟩ := hr
  obtain rfl := flatN_inj hc (canon_check h) hf
  rw [h] at hm
  exact hm
theorem grown_flat {l : List Nd} {w w' : World} {u ev : Value} (hr : GrowRes w w' l u ev) : (u = noGe ∧ ∃ e, ErrV w' ev (some e)) ∨ (ev = .nilIface ∧ ∃ g : Ge, checkR g = none ∧ flatL g = l ∧ g.bulk ≤ ndsW l ∧ CopyOf g.bulk w w' u g) := by
  unfold GrowRes at hr
  cases h : growE 1 0 l with
  | some i => rw [h] at hr; exact .inl ⟨hr.1, _, hr.2⟩
  | none =>
    rw [h] at hr
    obtain ⟨g, hf, hc, hm⟩ := hr
    cases hk : checkR g with
    | some e => rw [hk] at hm; exact .inl ⟨hm.1, _, hm.2⟩
    | none =>
      rw [hk] at hm
      exact .inr ⟨hm.2, g, hk, by rw [flatL_canon hk, hf], by have := canon_W hc; rw [hf] at this; exact this, hm.1⟩
theorem ndW_node (g : Ge) : ndW (nodeOf g) ≤ 2 + g.f1.length + (g.f2.length + g.f2.flatten.length) := by
  unfold ndW nodeOf
  dsimp only
  unfold sizesOf lineOf own
  split
  · rename_i h
    rw [if_neg (by omega)]
    simp
  · split
    · rw [List.length_map, List.length_append]; omega
    · simp
theorem ndsW_flat (g : Ge) : ndsW (flatN g) ≤ 2 * g.bulk := by
  induction g using Ge.ind with
  | h g ih =>
    have hL : ∀ ps : List Ge, (∀ p ∈ ps, p ∈ g.f3) → ndsW (ps.map flatN).flatten ≤ 2 * bulks ps := by
      intro ps
      induction ps with
      | nil => intro _; simp [bulks, ndsW]
      | cons p ps ihp =>
        intro hp
        have h1 := ih p (hp p List.mem_cons_self)
        have h2 := ihp (fun q hq => hp q (List.mem_cons_of_mem _ hq))
        simp only [bulks, List.map_cons, List.flatten_cons, ndsW_append]
        omega
    have h1 := hL g.f3 (fun _ h => h)
    have h2 := ndW_node g
    rw [flatN_eq, ndsW_cons, g.bulk_eq]
    omega
/-- The points of so many nodes' lines. -/
def linesTo (l : List Nd) (k : Nat) : Nat := ((l.take k).map fun x => x.f2.length).sum
theorem linesTo_succ (l : List Nd) (k : Nat) (h : k < l.length) : linesTo l (k + 1) = linesTo l k + (l[k]).f2.length := by
  unfold linesTo
  rw [List.take_succ_eq_append_getElem h, List.map_append, List.sum_append]
  simp
theorem linesTo_all {g : Ge} (h : checkR g = none) : linesTo (flatL g) (flatL g).length = ptsOf (nodes g 1 0) := by
  have hs := scan_shaped _ _ _ h
  unfold linesTo flatL
  rw [h, List.take_length]
  dsimp only
  rw [List.map_map]
  generalize nodes g 1 0 = l at hs
  induction l with
  | nil => rfl
  | cons x l ih =>
    rw [List.map_cons, List.sum_cons, ptsOf_cons, ih (fun y hy => hs y (List.mem_cons_of_mem _ hy)), shaped_own (hs x List.mem_cons_self)]
    rfl
theorem linesTo_le (l : List Nd) (k : Nat) : linesTo l k ≤ ndsW l := by
  unfold linesTo
  have h1 : ∀ l : List Nd, (l.map fun x => x.f2.length).sum ≤ ndsW l := by
    intro l
    induction l with
    | nil => simp [ndsW]
    | cons x l ih => rw [List.map_cons, List.sum_cons, ndsW_cons]; unfold ndW; omega
  have h2 := h1 (l.take k)
  have h3 : ndsW l = ndsW (l.take k) + ndsW (l.drop k) := by rw [← ndsW_append, List.take_append_drop]
  omega
theorem flatL_nodes {g : Ge} (h : checkR g = none) : (flatL g).length = (nodes g 1 0).length := by
  unfold flatL
  rw [h]
  simp
theorem nds_len (l : List Nd) : l.length ≤ ndsW l := by
  induction l with
  | nil => simp
  | cons y l ih => rw [ndsW_cons, List.length_cons]; unfold ndW; omega
theorem nds_mem {l : List Nd} {x : Nd} (hx : x ∈ l) : x.f1.length ≤ ndsW l ∧ x.f2.length ≤ ndsW l := by
  have h : ndW x ≤ ndsW l := by
    induction l with
    | nil => cases hx
    | cons y l ih =>
      rw [ndsW_cons]
      rcases List.mem_cons.1 hx with rfl | hx
      · omega
      · have := ih hx; omega
  unfold ndW at h
  omega
end Go.Proofs.YtmcbniobbbjdjaaDoor.Tree
