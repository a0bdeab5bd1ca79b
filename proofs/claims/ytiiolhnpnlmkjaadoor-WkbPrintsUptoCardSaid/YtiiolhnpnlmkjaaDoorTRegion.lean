/- Steps through regions that draw their order (wip/tp.py writes the steps rg_.. out); trees whose lists lie apart. No conditions. -/
import Derived.Test.YtiiolhnpnlmkjaaDoorTSem
import Derived.Test.YtiiolhnpnlmkjaaDoorWTab
import Derived.Test.YtiiolhnpnlmkjaaDoorWApart
import Derived.Test.YtiiolhnpnlmkjaaDoorWShare
namespace Go.Proofs.YtiiolhnpnlmkjaaDoor.Tree
open Go.RowKit Go.Proofs.YtiiolhnpnlmkjaaDoorW.PrintWords Go.Proofs.YtiiolhnpnlmkjaaDoorW.PrintLast Go.Proofs.YtiiolhnpnlmkjaaDoorW.PrintMore
set_option linter.unusedVariables false
/-! ### trees that lie apart -/
structure GoodK (d : Kd Ge) : Prop where
  sz : d.sz = 4
  K : ∀ w x cs, d.K w x cs → kGe.K w x cs
  E : ∀ q, q ∈ d.E → q ∈ [82, 24, 28]
def apartM (d : Kd Ge) (w : World) (base : Nat) (ok : Nat → Prop) (g : Ge) (cs : List Value) : Prop :=
  ∃ v1 v2 v3 ok1 ok2 ok3, cs = [.int .i64 g.f0, v1, v2, v3] ∧ (∀ k, ok1 k → ok k) ∧ (∀ k, ok2 k → ok k) ∧ (∀ k, ok3 k → ok k) ∧ (∀ k, ok1 k → ¬ ok2 k) ∧ (∀ k, ok1 k → ¬ ok3 k) ∧ (∀ k, ok2 k → ¬ ok3 k) ∧
    kPt.R 82 w base ok1 v1 g.f1 ∧ Kd.S (Kd.slice 82 kPt) 24 w base ok2 v2 g.f2 ∧ Kd.S d 28 w base ok3 v3 g.f3
def FS (d : Kd Ge) (hd : GoodK d) : Kd Ge where
  sz := 4
  E := [82, 24, 28]
  K := kGe.K
  M := apartM d
  K_len := fun h => kGe.K_len h
  K_one := fun h => kGe.K_one h
  K_below := fun hb h => kGe.K_below hb h
  K_of_M := by
    rintro w base ok g cs ⟨v1, v2, v3, ok1, ok2, ok3, rfl, _, _, _, _, _, _, h1, h2, h3⟩
    obtain ⟨A1, c1, rfl, l1, r1⟩ := Kd.R_reads h1
    obtain ⟨A2, c2, rfl, l2, r2⟩ := Kd.S_reads h2
    obtain ⟨A3, c3, rfl, l3, r3⟩ := Kd.S_reads h3
    exact kGe_mk w g l1 r1 l2 r2 l3 (Kd.C_imp (d' := kGe) hd.sz hd.K r3)
  M_mono := by
    rintro w base ok ok' g cs hok ⟨v1, v2, v3, ok1, ok2, ok3, rfl, a1, a2, a3, r⟩
    exact ⟨v1, v2, v3, ok1, ok2, ok3, rfl, fun k h => hok k (a1 k h), fun k h => hok k (a2 k h), fun k h => hok k (a3 k h), r⟩
  M_bound := by
    rintro w base ok g cs ⟨v1, v2, v3, ok1, ok2, ok3, rfl, a1, a2, a3, b1, b2, b3, h1, h2, h3⟩
    refine ⟨v1, v2, v3, _, _, _, rfl, ?_, ?_, ?_, ?_, ?_, ?_, Kd.R_bound h1, Kd.S_bound h2, Kd.S_bound h3⟩
    · rintro k ⟨p, q, r, t, ht, hc⟩
      refine ⟨a1 k p, q, r, t, ?_, hc⟩
      rcases List.mem_cons.1 ht with rfl | ht
      · simp
      · cases ht
    · rintro k ⟨p, q, r, t, ht, hc⟩
      refine ⟨a2 k p, q, r, t, ?_, hc⟩
      rcases List.mem_cons.1 ht with rfl | ht
      · simp
      · rcases List.mem_cons.1 ht with rfl | ht
        · simp
        · cases ht
    · rintro k ⟨p, q, r, t, ht, hc⟩
      refine ⟨a3 k p, q, r, t, ?_, hc⟩
      rcases List.mem_cons.1 ht with rfl | ht
      · simp
      · exact hd.E t ht
    · exact fun k h h' => b1 k h.1 h'.1
    · exact fun k h h' => b2 k h.1 h'.1
    · exact fun k h h' => b3 k h.1 h'.1
  M_move := by
    rintro w w1 base ok g cs hm ⟨v1, v2, v3, ok1, ok2, ok3, rfl, a1, a2, a3, b1, b2, b3, h1, h2, h3⟩
    exact ⟨v1, v2, v3, ok1, ok2, ok3, rfl, a1, a2, a3, b1, b2, b3, Kd.R_move h1 (fun k h => hm k (a1 k h)), Kd.S_move h2 (fun k h => hm k (a2 k h)), Kd.S_move h3 (fun k h => hm k (a3 k h))⟩
  M_lower := by
    rintro w base base' ok g cs hb ⟨v1, v2, v3, ok1, ok2, ok3, rfl, a1, a2, a3, b1, b2, b3, h1, h2, h3⟩
    exact ⟨v1, v2, v3, ok1, ok2, ok3, rfl, a1, a2, a3, b1, b2, b3, Kd.R_lower h1 hb, Kd.S_lower h2 hb, Kd.S_lower h3 hb⟩
def noneK : Kd Ge where
  sz := 4
  E := []
  K := kGe.K
  M := fun _ _ _ _ _ => False
  K_len := fun h => kGe.K_len h
  K_one := fun h => kGe.K_one h
  K_below := fun hb h => kGe.K_below hb h
  K_of_M := fun h => h.elim
  M_mono := fun _ h => h
  M_bound := fun h => h
  M_move := fun _ h => h
  M_lower := fun _ h => h
/-- Trees of so many levels at most. -/
def kSpP : Nat → {d : Kd Ge // GoodK d}
  | 0 => ⟨noneK, rfl, fun _ _ _ h => h, fun _ h => by cases h⟩
  | n + 1 => ⟨FS (kSpP n).1 (kSpP n).2, rfl, fun _ _ _ h => h, fun _ h => h⟩
def kSp (n : Nat) : Kd Ge := (kSpP n).1
theorem kSp_sz (n : Nat) : (kSp n).sz = 4 := (kSpP n).2.sz
theorem kSp_K (n : Nat) {w : World} {g : Ge} {cs : List Value} (h : (kSp n).K w g cs) : kGe.K w g cs := (kSpP n).2.K _ _ _ h
theorem kSp_M (n : Nat) (w : World) (base : Nat) (ok : Nat → Prop) (g : Ge) (cs : List Value) : (kSp (n + 1)).M w base ok g cs = apartM (kSp n) w base ok g cs := rfl
end Go.Proofs.YtiiolhnpnlmkjaaDoor.Tree
