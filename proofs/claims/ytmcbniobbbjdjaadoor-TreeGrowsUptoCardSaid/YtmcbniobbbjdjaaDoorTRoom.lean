/- Trees with a mark in the spare room of each list: kinds. No conditions. -/
import Derived.Test.YtmcbniobbbjdjaaDoorTCopy
namespace Go.Proofs.YtmcbniobbbjdjaaDoor.Tree
open Go.RowKit Go.Proofs.YtmcbniobbbjdjaaDoorW.PrintWords Go.Proofs.YtmcbniobbbjdjaaDoorW.PrintLast Go.Proofs.YtmcbniobbbjdjaaDoorW.PrintMore
set_option linter.unusedVariables false
set_option linter.unusedSimpArgs false
theorem R_readsN {α : Type} {d : Kd α} {e : Nat} {w : World} {base : Nat} {ok : Nat → Prop} {A : Option Addr} {n c : Nat} {xs : List α} (h : d.R e w base ok (.slice A n c) xs) : n ≤ c ∧ d.C w A n xs := by
  obtain ⟨e, l, r⟩ := Kd.R_reads' h
  rw [← e] at r
  exact ⟨l, r⟩
def mark : Pt := ⟨42405, 42406⟩
/-- A list of points with a mark behind it (or none). -/
def kRing : Kd (List Pt × Bool) where
  sz := 1
  E := [65]
  K := fun w x cs => if x.2 = true then ∃ A c, cs = [.slice A x.1.length c] ∧ x.1.length + 1 ≤ c ∧ kPt.C w A (x.1.length + 1) (x.1 ++ [mark]) else ∃ A c, cs = [.slice A x.1.length c] ∧ x.1.length ≤ c ∧ kPt.C w A x.1.length x.1
  M := fun w base ok x cs => if x.2 = true then ∃ A c, cs = [.slice A x.1.length c] ∧ kPt.R 65 w base ok (.slice A (x.1.length + 1) c) (x.1 ++ [mark]) else ∃ v, cs = [v] ∧ kPt.R 65 w base ok v x.1
  K_len := by
    intro w x cs h
    split at h <;> (obtain ⟨A, c, rfl, _⟩ := h; rfl)
  K_one := by
    intro w x cs h u hu
    split at h <;> (obtain ⟨A, c, rfl, _⟩ := h; rw [List.mem_singleton.1 hu]; rfl)
  K_below := by
    intro w w1 x cs hb h
    split at h
    · rename_i e; rw [if_pos e]
      obtain ⟨A, c, rfl, hl, hr⟩ := h
      exact ⟨A, c, rfl, hl, Kd.C_below hr hb⟩
    · rename_i e; rw [if_neg e]
      obtain ⟨A, c, rfl, hl, hr⟩ := h
      exact ⟨A, c, rfl, hl, Kd.C_below hr hb⟩
  K_of_M := by
    intro w base ok x cs h
    split at h
    · rename_i e; rw [if_pos e]
      obtain ⟨A, c, rfl, h⟩ := h
      obtain ⟨hl, hr⟩ := R_readsN h
      exact ⟨A, c, rfl, hl, hr⟩
    · rename_i e; rw [if_neg e]
      obtain ⟨v, rfl, h⟩ := h
      obtain ⟨A, c, rfl, hl, hr⟩ := Kd.R_reads h
      exact ⟨A, c, rfl, hl, hr⟩
  M_mono := by
    intro w base ok ok' x cs hok h
    split at h
    · rename_i e; rw [if_pos e]
      obtain ⟨A, c, rfl, h⟩ := h
      exact ⟨A, c, rfl, Kd.R_mono h hok⟩
    · rename_i e; rw [if_neg e]
      obtain ⟨v, rfl, h⟩ := h
      exact ⟨v, rfl, Kd.R_mono h hok⟩
  M_bound := by
    intro w base ok x cs h
    split at h
    · rename_i e; rw [if_pos e]
      obtain ⟨A, c, rfl, h⟩ := h
      exact ⟨A, c, rfl, Kd.R_bound h⟩
    · rename_i e; rw [if_neg e]
      obtain ⟨v, rfl, h⟩ := h
      exact ⟨v, rfl, Kd.R_bound h⟩
  M_move := by
    intro w w1 base ok x cs hm h
    split at h
    · rename_i e; rw [if_pos e]
      obtain ⟨A, c, rfl, h⟩ := h
      exact ⟨A, c, rfl, Kd.R_move h hm⟩
    · rename_i e; rw [if_neg e]
      obtain ⟨v, rfl, h⟩ := h
      exact ⟨v, rfl, Kd.R_move h hm⟩
  M_lower := by
    intro w base base' ok x cs hb h
    split at h
    · rename_i e; rw [if_pos e]
      obtain ⟨A, c, rfl, h⟩ := h
      exact ⟨A, c, rfl, Kd.R_lower h hb⟩
    · rename_i e; rw [if_neg e]
      obtain ⟨v, rfl, h⟩ := h
      exact ⟨v, rfl, Kd.R_lower h hb⟩
/-- A part, or the mark behind the parts. -/
def kPart (d : Kd Ge) : Kd (Option Ge) where
  sz := d.sz
  E := d.E
  K := fun w x cs => match x with
    | none => cs.length = d.sz ∧ (∀ u ∈ cs, u.oneCell' = true) ∧ cs[0]? = some (.int .i64 77)
    | some g => d.K w g cs
  M := fun w base ok x cs => match x with
    | none => cs.length = d.sz ∧ (∀ u ∈ cs, u.oneCell' = true) ∧ cs[0]? = some (.int .i64 77)
    | some g => d.M w base ok g cs
  K_len := by
    rintro w (_ | g) cs h
    · exact h.1
    · exact d.K_len h
  K_one := by
    rintro w (_ | g) cs h
    · exact h.2.1
    · exact d.K_one h
  K_below := by
    rintro w w1 (_ | g) cs hb h
    · exact h
    · exact d.K_below hb h
  K_of_M := by
    rintro w base ok (_ | g) cs h
    · exact h
    · exact d.K_of_M h
  M_mono := by
    rintro w base ok ok' (_ | g) cs hok h
    · exact h
    · exact d.M_mono hok h
  M_bound := by
    rintro w base ok (_ | g) cs h
    · exact h
    · exact d.M_bound h
  M_move := by
    rintro w w1 base ok (_ | g) cs hm h
    · exact h
    · exact d.M_move hm h
  M_lower := by
    rintro w base base' ok (_ | g) cs hb h
    · exact h
    · exact d.M_lower hb h
def ringsOf (g : Ge) : List (List Pt × Bool) := (g.f2.map fun r => (r, true)) ++ [([mark], false)]
def partsOf (g : Ge) : List (Option Ge) := g.f3.map some ++ [none]
def roomK (d : Kd Ge) (w : World) (g : Ge) (cs : List Value) : Prop :=
  ∃ A1 c1 A2 c2 A3 c3, cs = [.int .i64 g.f0, .slice A1 g.f1.length c1, .slice A2 g.f2.length c2, .slice A3 g.f3.length c3] ∧ g.f1.length + 1 ≤ c1 ∧ kPt.C w A1 (g.f1.length + 1) (g.f1 ++ [mark]) ∧ g.f2.length + 1 ≤ c2 ∧ kRing.C w A2 (g.f2.length + 1) (ringsOf g) ∧ g.f3.length + 1 ≤ c3 ∧ (kPart d).C w A3 (g.f3.length + 1) (partsOf g)
def roomM (d : Kd Ge) (w : World) (base : Nat) (ok : Nat → Prop) (g : Ge) (cs : List Value) : Prop :=
  ∃ A1 c1 A2 c2 A3 c3, cs = [.int .i64 g.f0, .slice A1 g.f1.length c1, .slice A2 g.f2.length c2, .slice A3 g.f3.length c3] ∧ kPt.R 65 w base ok (.slice A1 (g.f1.length + 1) c1) (g.f1 ++ [mark]) ∧ kRing.R 22 w base ok (.slice A2 (g.f2.length + 1) c2) (ringsOf g) ∧ (kPart d).R 26 w base ok (.slice A3 (g.f3.length + 1) c3) (partsOf g)
structure FineK (d : Kd Ge) : Prop where
  sz : d.sz = 4
  E : ∀ q, q ∈ d.E → q ∈ [65, 22, 26]
def FR (d : Kd Ge) (hd : FineK d) : Kd Ge where
  sz := 4
  E := [65, 22, 26]
  K := roomK d
  M := roomM d
  K_len := by rintro w g cs ⟨A1, c1, A2, c2, A3, c3, rfl, _⟩; rfl
  K_one := by
    rintro w g cs ⟨A1, c1, A2, c2, A3, c3, rfl, _⟩ u hu
    simp only [List.mem_cons, List.not_mem_nil, or_false] at hu
    rcases hu with rfl | rfl | rfl | rfl <;> rfl
  K_below := by
    rintro w w1 g cs hb ⟨A1, c1, A2, c2, A3, c3, rfl, l1, h1, l2, h2, l3, h3⟩
    exact ⟨A1, c1, A2, c2, A3, c3, rfl, l1, Kd.C_below h1 hb, l2, Kd.C_below h2 hb, l3, Kd.C_below h3 hb⟩
  K_of_M := by
    rintro w base ok g cs ⟨A1, c1, A2, c2, A3, c3, rfl, h1, h2, h3⟩
    exact ⟨A1, c1, A2, c2, A3, c3, rfl, (R_readsN h1).1, (R_readsN h1).2, (R_readsN h2).1, (R_readsN h2).2, (R_readsN h3).1, (R_readsN h3).2⟩
  M_mono := by
    rintro w base ok ok' g cs hok ⟨A1, c1, A2, c2, A3, c3, rfl, h1, h2, h3⟩
    exact ⟨A1, c1, A2, c2, A3, c3, rfl, Kd.R_mono h1 hok, Kd.R_mono h2 hok, Kd.R_mono h3 hok⟩
  M_bound := by
    rintro w base ok g cs ⟨A1, c1, A2, c2, A3, c3, rfl, h1, h2, h3⟩
    refine ⟨A1, c1, A2, c2, A3, c3, rfl, Kd.R_mono (Kd.R_bound h1) ?_, Kd.R_mono (Kd.R_bound h2) ?_, Kd.R_mono (Kd.R_bound h3) ?_⟩
    · rintro k ⟨p, q, r, t, ht, hc⟩
      refine ⟨p, q, r, t, ?_, hc⟩
      rcases List.mem_cons.1 ht with rfl | ht
      · simp
      · cases ht
    · rintro k ⟨p, q, r, t, ht, hc⟩
      refine ⟨p, q, r, t, ?_, hc⟩
      rcases List.mem_cons.1 ht with rfl | ht
      · simp
      · rcases List.mem_cons.1 ht with rfl | ht
        · simp
        · cases ht
    · rintro k ⟨p, q, r, t, ht, hc⟩
      refine ⟨p, q, r, t, ?_, hc⟩
      rcases List.mem_cons.1 ht with rfl | ht
      · simp
      · exact hd.E t ht
  M_move := by
    rintro w w1 base ok g cs hm ⟨A1, c1, A2, c2, A3, c3, rfl, h1, h2, h3⟩
    exact ⟨A1, c1, A2, c2, A3, c3, rfl, Kd.R_move h1 hm, Kd.R_move h2 hm, Kd.R_move h3 hm⟩
  M_lower := by
    rintro w base base' ok g cs hb ⟨A1, c1, A2, c2, A3, c3, rfl, h1, h2, h3⟩
    exact ⟨A1, c1, A2, c2, A3, c3, rfl, Kd.R_lower h1 hb, Kd.R_lower h2 hb, Kd.R_lower h3 hb⟩
def voidK : Kd Ge where
  sz := 4
  E := []
  K := fun _ _ _ => False
  M := fun _ _ _ _ _ => False
  K_len := fun h => h.elim
  K_one := fun h => h.elim
  K_below := fun _ h => h
  K_of_M := fun h => h
  M_mono := fun _ h => h
  M_bound := fun h => h
  M_move := fun _ h => h
  M_lower := fun _ h => h
/-- Roomy trees of so many levels at most. -/
def kRmP : Nat → {d : Kd Ge // FineK d}
  | 0 => ⟨voidK, rfl, fun _ h => by cases h⟩
  | n + 1 => ⟨FR (kRmP n).1 (kRmP n).2, rfl, fun _ h => h⟩
def kRm (n : Nat) : Kd Ge := (kRmP n).1
theorem kRm_sz (n : Nat) : (kRm n).sz = 4 := (kRmP n).2.sz
theorem kRm_M (n : Nat) (w : World) (base : Nat) (ok : Nat → Prop) (g : Ge) (cs : List Value) : (kRm (n + 1)).M w base ok g cs = roomM (kRm n) w base ok g cs := rfl
theorem kRm_K (n : Nat) (w : World) (g : Ge) (cs : List Value) : (kRm (n + 1)).K w g cs = roomK (kRm n) w g cs := rfl
/-- A row without its last element. -/
theorem C_front {α β : Type} {d : Kd α} {d' : Kd β} {w : World} {A : Option Addr} {xs : List α} {z : α} {ys : List β} (h : d.C w A (xs.length + 1) (xs ++ [z])) (hs : d'.sz = d.sz) (hl : ys.length = xs.length)
    (hK : ∀ (j : Nat) (x : α) (y : β) (cs : List Value), xs[j]? = some x → ys[j]? = some y → d.K w x cs → d'.K w y cs) : d'.C w A xs.length ys := by
  obtain ⟨_, hm, hc⟩ := h
  refine ⟨hl, by omega, fun hp => ?_⟩
  obtain ⟨ad, e, hc⟩ := hc (by omega)
  refine ⟨ad, e, fun j y hy => ?_⟩
  have hj : j < xs.length := by have := (List.getElem?_eq_some_iff.1 hy).1; omega
  obtain ⟨c, h1, h2, h3⟩ := hc j xs[j] (by rw [List.getElem?_append_left hj]; exact List.getElem?_eq_getElem hj)
  exact ⟨c, h1.trans hs.symm, hK j _ y c (List.getElem?_eq_getElem hj) hy h2, by rw [hs]; exact h3⟩
theorem kRm_isK (n : Nat) : ∀ (w : World) (g : Ge) (cs : List Value), (kRm n).K w g cs → kGe.K w g cs := by
  induction n with
  | zero => intro w g cs h; exact h.elim
  | succ n ih =>
    intro w g cs h
    rw [kRm_K] at h
    obtain ⟨A1, c1, A2, c2, A3, c3, rfl, l1, h1, l2, h2, l3, h3⟩ := h
    refine kGe_mk w g (by omega) ?_ (by omega) ?_ (by omega) ?_
    · exact C_front h1 rfl rfl (fun j x y cs hx hy hk => by rw [hx] at hy; cases hy; exact hk)
    · have hl : (g.f2.map fun r => (r, true)).length = g.f2.length := by simp
      rw [← hl] at h2
      have := C_front (d' := Kd.slice 65 kPt) (ys := g.f2) h2 rfl hl.symm (fun j x y cs hx hy hk => by
        rw [List.getElem?_map, hy] at hx
        cases hx
        obtain ⟨A, c, rfl, h4, h5⟩ := hk
        exact ⟨A, c, rfl, Nat.le_of_succ_le h4, C_front h5 rfl rfl (fun j x y cs hx hy hk => by rw [hx] at hy; cases hy; exact hk)⟩)
      rwa [hl] at this
    · have hl : (g.f3.map some).length = g.f3.length := by simp
      rw [← hl] at h3
      have := C_front (d' := kGe) (ys := g.f3) h3 (kRm_sz n).symm hl.symm (fun j x y cs hx hy hk => by
        rw [List.getElem?_map, hy] at hx
        cases hx
        exact ih w y cs hk)
      rwa [hl] at this
/-- What roomy answers. -/
def RoomyAt (n : Nat) (w : World) (v : Value) (g : Ge) : Prop := ∃ cs, v = .agg cs.toArray ∧ (kRm n).K w g cs
theorem RoomyAt.isG {n : Nat} {w : World} {v : Value} {g : Ge} (h : RoomyAt n w v g) : IsG w v g := by
  obtain ⟨cs, rfl, h⟩ := h
  exact IsG.of (kRm_isK n w g cs h)
theorem RoomyAt.below {n : Nat} {w w' : World} {v : Value} {g : Ge} (h : RoomyAt n w v g) (hb : Below w.heap.size w w') : RoomyAt n w' v g := by
  obtain ⟨cs, rfl, h⟩ := h
  exact ⟨cs, rfl, (kRm n).K_below hb h⟩
end Go.Proofs.YtmcbniobbbjdjaaDoor.Tree
