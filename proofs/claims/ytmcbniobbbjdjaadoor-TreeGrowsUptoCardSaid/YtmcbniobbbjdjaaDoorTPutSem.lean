/- A tree with another geometry at a path, in plain Lean. No conditions but those told. -/
import Derived.Test.YtmcbniobbbjdjaaDoorTFind
namespace Go.Proofs.YtmcbniobbbjdjaaDoor.Tree
open Go.RowKit Go.Proofs.YtmcbniobbbjdjaaDoorW.PrintWords Go.Proofs.YtmcbniobbbjdjaaDoorW.PrintLast Go.Proofs.YtmcbniobbbjdjaaDoorW.PrintMore
set_option linter.unusedVariables false
set_option linter.unusedSimpArgs false
theorem ge_ext {a b : Ge} (h0 : a.f0 = b.f0) (h1 : a.f1 = b.f1) (h2 : a.f2 = b.f2) (h3 : a.f3 = b.f3) : a = b := by
  cases a; cases b
  dsimp only at h0 h1 h2 h3
  subst h0 h1 h2 h3
  rfl
def putG : Ge → List Int → Ge → Ge
  | _, [], p => p
  | g, i :: q, p => { g with f3 := g.f3.set i.toNat (putG (rd_Ge g.f3 i) q p) }
theorem putG_nil (g p : Ge) : putG g [] p = p := rfl
theorem putG_cons (g p : Ge) (i : Int) (q : List Int) : putG g (i :: q) p = { g with f3 := g.f3.set i.toNat (putG (rd_Ge g.f3 i) q p) } := rfl
theorem at_cons {g h : Ge} {i : Int} {q : List Int} (e : at_ g (i :: q) = some h) : (0 ≤ i ∧ i < (g.f3.length : Int)) ∧ at_ (rd_Ge g.f3 i) q = some h := by
  unfold at_ at e
  split at e
  · rename_i hi; exact ⟨hi, e⟩
  · cases e
theorem at_mk {g : Ge} {i : Int} {q : List Int} (h : 0 ≤ i ∧ i < (g.f3.length : Int)) : at_ g (i :: q) = at_ (rd_Ge g.f3 i) q := by
  conv => lhs; unfold at_
  rw [if_pos h]
theorem rd_set_eq (l : List Ge) (i : Int) (x : Ge) (h : 0 ≤ i ∧ i < (l.length : Int)) : rd_Ge (l.set i.toNat x) i = x := by
  have : i.toNat < l.length := by omega
  simp [rd_Ge, List.getD_eq_getElem?_getD, List.getElem?_set, this]
theorem rd_set_ne (l : List Ge) (i j : Int) (x : Ge) (hi : 0 ≤ i) (hj : 0 ≤ j) (h : i ≠ j) : rd_Ge (l.set i.toNat x) j = rd_Ge l j := by
  have : i.toNat ≠ j.toNat := by omega
  simp [rd_Ge, List.getD_eq_getElem?_getD, List.getElem?_set, this]
theorem at_putG (p : Ge) : ∀ (q : List Int) (g h : Ge), at_ g q = some h → at_ (putG g q p) q = some p := by
  intro q
  induction q with
  | nil => intro g h _; rfl
  | cons i q ih =>
    intro g h e
    obtain ⟨hi, e⟩ := at_cons e
    rw [putG_cons, at_mk (by rw [List.length_set]; exact hi)]
    show at_ (rd_Ge (g.f3.set i.toNat (putG (rd_Ge g.f3 i) q p)) i) q = some p
    rw [rd_set_eq _ _ _ hi]
    exact ih _ _ e
theorem putG_same : ∀ (q : List Int) (g h : Ge), at_ g q = some h → putG g q h = g := by
  intro q
  induction q with
  | nil => intro g h e; injection e with e; exact e.symm
  | cons i q ih =>
    intro g h e
    obtain ⟨hi, e⟩ := at_cons e
    rw [putG_cons, ih _ _ e]
    refine ge_ext rfl rfl rfl ?_
    show g.f3.set i.toNat (rd_Ge g.f3 i) = g.f3
    have hl : i.toNat < g.f3.length := by omega
    have : rd_Ge g.f3 i = g.f3[i.toNat] := by simp [rd_Ge, List.getD_eq_getElem?_getD, hl]
    rw [this]
    exact List.set_getElem_self hl
/-- Is one the beginning of the other? -/
def begB : List Int → List Int → Bool
  | [], _ => true
  | _, [] => true
  | x :: a, y :: b => decide (x = y) && begB a b
theorem at_putG_ne (p : Ge) : ∀ (q o : List Int) (g h : Ge), at_ g q = some h → begB q o = false → at_ (putG g q p) o = at_ g o := by
  intro q
  induction q with
  | nil => intro o g h _ hb; cases hb
  | cons i q ih =>
    intro o g h e hb
    obtain ⟨hi, e⟩ := at_cons e
    cases o with
    | nil => cases hb
    | cons j o =>
      rw [putG_cons]
      by_cases hj : 0 ≤ j ∧ j < (g.f3.length : Int)
      · rw [at_mk (by rw [List.length_set]; exact hj), at_mk hj]
        show at_ (rd_Ge (g.f3.set i.toNat (putG (rd_Ge g.f3 i) q p)) j) o = _
        by_cases hij : i = j
        · subst hij
          rw [rd_set_eq _ _ _ hi]
          refine ih _ _ _ e ?_
          simpa [begB] using hb
        · rw [rd_set_ne _ _ _ _ hi.1 hj.1 hij]
      · unfold at_
        rw [if_neg hj, if_neg (by rw [List.length_set]; exact hj)]
theorem bulks_set : ∀ (l : List Ge) (k : Nat) (x : Ge) (h : k < l.length), bulks (l.set k x) + l[k].bulk = bulks l + x.bulk := by
  intro l
  induction l with
  | nil => intro k x h; exact absurd h (Nat.not_lt_zero _)
  | cons a l ih =>
    intro k x h
    cases k with
    | zero => simp only [List.set_cons_zero, List.getElem_cons_zero, bulks]; omega
    | succ k =>
      have := ih k x (by simpa using h)
      simp only [List.set_cons_succ, List.getElem_cons_succ, bulks]
      omega
theorem putG_bulk (p : Ge) : ∀ (q : List Int) (g h : Ge), at_ g q = some h → (putG g q p).bulk ≤ g.bulk + p.bulk := by
  intro q
  induction q with
  | nil => intro g h _; rw [putG_nil]; omega
  | cons i q ih =>
    intro g h e
    obtain ⟨hi, e⟩ := at_cons e
    have h1 := ih _ _ e
    have hl : i.toNat < g.f3.length := by omega
    have hr : rd_Ge g.f3 i = g.f3[i.toNat] := by simp [rd_Ge, List.getD_eq_getElem?_getD, hl]
    have h2 := bulks_set g.f3 i.toNat (putG (rd_Ge g.f3 i) q p) hl
    have h3 := (putG g (i :: q) p).bulk_eq
    have h4 := g.bulk_eq
    rw [putG_cons] at h3 ⊢
    dsimp only at h3
    rw [← hr] at h2
    omega
theorem at_len : ∀ (q : List Int) (g h : Ge), at_ g q = some h → q.length + h.bulk ≤ g.bulk := by
  intro q
  induction q with
  | nil => intro g h e; injection e with e; rw [e]; simp
  | cons i q ih =>
    intro g h e
    obtain ⟨hi, e⟩ := at_cons e
    have h1 := ih _ _ e
    have hl : i.toNat < g.f3.length := by omega
    have hr : rd_Ge g.f3 i = g.f3[i.toNat] := by simp [rd_Ge, List.getD_eq_getElem?_getD, hl]
    have h2 := bulks_mem (List.getElem_mem hl)
    have h4 := g.bulk_eq
    rw [← hr] at h2
    rw [List.length_cons]
    omega
open Classical in
/-- The same tree? -/
noncomputable def eqG (a b : Ge) : Bool := if a = b then true else false
theorem eqG_true {a b : Ge} (h : a = b) : eqG a b = true := by unfold eqG; exact if_pos h
theorem eqG_false {a b : Ge} (h : a ≠ b) : eqG a b = false := by unfold eqG; exact if_neg h
theorem eqG_iff (a b : Ge) : eqG a b = true ↔ a = b := by
  refine ⟨fun h => ?_, eqG_true⟩
  by_cases e : a = b
  · exact e
  · rw [eqG_false e] at h
    cases h
theorem eqG_comm (a b : Ge) : eqG a b = eqG b a := by
  by_cases h : a = b
  · subst h; rfl
  · rw [eqG_false h, eqG_false (fun e => h e.symm)]
end Go.Proofs.YtmcbniobbbjdjaaDoor.Tree
