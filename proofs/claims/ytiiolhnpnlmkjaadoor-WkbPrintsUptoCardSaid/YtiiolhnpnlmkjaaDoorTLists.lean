/- Shapes of geometries by contracts: fits, lists. No conditions. -/
import Derived.Test.YtiiolhnpnlmkjaaDoorTLeaf
import Derived.BigQuiet
import Derived.RegionTactic
namespace Go.Proofs.YtiiolhnpnlmkjaaDoor.Tree
open Go.RowKit Go.Proofs.YtiiolhnpnlmkjaaDoorW.PrintWords Go.Proofs.YtiiolhnpnlmkjaaDoorW.PrintLast Go.Proofs.YtiiolhnpnlmkjaaDoorW.PrintMore
set_option linter.unusedVariables false
set_option linter.unusedSimpArgs false
def fitsB (k o : Int) : Bool := if o = 4 ∨ o = 5 ∨ o = 6 then decide (k = o - 3) else true
set_option maxHeartbeats 1000000 in
theorem fits_calls (k o : Int) (w : World) : Calls Tryd.prog 98 #[.int .i64 k, .int .i64 o] w fun e w' => e = .returned (.bool (fitsB k o)) ∧ w' = w := by
  unfold fitsB
  by_cases h4 : o = 4
  · subst h4
    go_enter Tryd.func98, Tryd.ntmps98
    go_wp2_with fail
    go_ret
    exact ⟨rfl, rfl⟩
  · by_cases h5 : o = 5
    · subst h5
      go_enter Tryd.func98, Tryd.ntmps98
      go_wp2_with fail
      go_ret
      exact ⟨rfl, rfl⟩
    · by_cases h6 : o = 6
      · subst h6
        go_enter Tryd.func98, Tryd.ntmps98
        go_wp2_with fail
        go_ret
        exact ⟨rfl, rfl⟩
      · have q4 : (o == 4) = false := beq_eq_false_iff_ne.mpr h4
        have q5 : (o == 5) = false := beq_eq_false_iff_ne.mpr h5
        have q6 : (o == 6) = false := beq_eq_false_iff_ne.mpr h6
        go_enter Tryd.func98, Tryd.ntmps98
        go_wp2_with fail
        go_ret
        exact ⟨rfl, rfl⟩
/-- The lists that a geometry of its kind may have. -/
def listsB (g : Ge) : Bool :=
  if g.f0 = 1 then decide (g.f1.length ≤ 1) && decide (g.f2.length = 0) && decide (g.f3.length = 0)
  else if g.f0 = 2 then decide (g.f2.length = 0) && decide (g.f3.length = 0)
  else if g.f0 = 3 then (g.f2.all fun r => !r.isEmpty) && (decide (g.f1.length = 0) && decide (g.f3.length = 0))
  else if g.f0 = 4 ∨ g.f0 = 5 ∨ g.f0 = 6 ∨ g.f0 = 7 then decide (g.f1.length = 0) && decide (g.f2.length = 0)
  else false
set_option maxHeartbeats 4000000 in
theorem lists_calls (g : Ge) (ad : Addr) (w : World) (h : GAt w ad g) (hs : g.bulk ≤ 1073741824) :
    Calls Tryd.prog 97 #[.pointer (some ad)] w fun e w' => e = .returned (.bool (listsB g)) ∧ w' = w := by
  obtain ⟨A1, c1, A2, c2, A3, c3, e0, e1, e2, e3, l1, h1, l2, h2, l3, h3⟩ := h
  have H2 := Aside0.mk h2
  clear h1 h2 h3
  obtain ⟨b, hb⟩ : ∃ b, b = listsB g := ⟨_, rfl⟩
  rw [← hb]
  have HB := Aside0.mk hb
  clear hb
  have bl := g.bulk_eq
  have bp := bulks_len g.f3
  have b1 : g.f1.length ≤ 1073741824 := by omega
  have b2 : g.f2.length ≤ 1073741824 := by omega
  have b3 : g.f3.length ≤ 1073741824 := by omega
  clear bl bp hs
  obtain ⟨k, l, r, ps⟩ := g
  dsimp only at *
  by_cases k1 : k = 1
  · subst k1
    go_enter Tryd.func97, Tryd.ntmps97
    go_wp2_with fail
    all_goals go_ret
    all_goals refine ⟨ret_b ?_, rfl⟩
    all_goals (rw [HB.out, Bool.eq_iff_iff]; clear HB e0 e1 e2 e3; simp_all [listsB] <;> (intros; omega))
  have q1 : (k == 1) = false := beq_eq_false_iff_ne.mpr k1
  by_cases k2 : k = 2
  · subst k2
    go_enter Tryd.func97, Tryd.ntmps97
    go_wp2_with fail
    all_goals go_ret
    all_goals refine ⟨ret_b ?_, rfl⟩
    all_goals (rw [HB.out, Bool.eq_iff_iff]; clear HB e0 e1 e2 e3; simp_all [listsB] <;> (intros; omega))
  have q2 : (k == 2) = false := beq_eq_false_iff_ne.mpr k2
  by_cases k3 : k = 3
  · subst k3
    have b2' : r.length < 9223372036854775807 := by omega
    go_enter Tryd.func97, Tryd.ntmps97
    go_wp2_with fail
    go_loop [56] (fun i => ∃ j : Nat, j ≤ r.length ∧ i = .int .i64 (j : Int) ∧ Aside0 (((r.take j).all fun x => !x.isEmpty) = true)) (fun i => r.length - (intOf i).toNat)
    case atStart => exact ⟨0, Nat.zero_le _, rfl, ⟨rfl⟩⟩
    case round =>
      obtain ⟨j, hj, rfl, HF⟩ := hrel
      by_cases hlt : j < r.length
      · obtain ⟨a2, A0, c0, rfl, hx, hl, hc⟩ := at_L2 H2.out j (by omega) (by omega)
        rw [rd_L2_at _ _ hlt, Int.toNat_natCast] at hx
        clear hc hl
        by_cases hz : r[j].length = 0
        · rw [hz] at hx
          go_wp2_with fail
          go_ret
          refine ⟨ret_b ?_, rfl⟩
          rw [HB.out]
          have : (r.all fun x => !x.isEmpty) = false := by
            rw [List.all_eq_false]
            exact ⟨r[j], List.getElem_mem hlt, by simp [List.eq_nil_of_length_eq_zero hz]⟩
          simp [listsB, this]
        · have hz' : ¬ (((r[j].length : Nat) : Int) = 0) := by omega
          have HE := Aside0.mk (show ((r.take (j + 1)).all fun x => !x.isEmpty) = true by
            rw [List.take_succ_eq_append_getElem hlt, List.all_append, HF.out]
            simp; intro hq; rw [hq] at hz; exact hz rfl)
          go_wp2_with fail
          go_round
          case rel => exact ⟨j + 1, by omega, by go_num, HE⟩
          case measure => simp [intOf]; omega
      · obtain rfl : j = r.length := by omega
        have hF := HF.out
        rw [List.take_length] at hF
        have HF2 := Aside0.mk hF
        clear hF
        go_wp2_with fail
        all_goals go_ret
        all_goals refine ⟨ret_b ?_, rfl⟩
        all_goals (rw [HB.out, Bool.eq_iff_iff]; have hF := HF2.out; clear HB HF HF2 e0 e1 e2 e3 H2; simp only [listsB, hF]; simp_all <;> (intros; omega))
  have q3 : (k == 3) = false := beq_eq_false_iff_ne.mpr k3
  by_cases k4 : k = 4
  · subst k4
    go_enter Tryd.func97, Tryd.ntmps97
    go_wp2_with fail
    all_goals go_ret
    all_goals refine ⟨ret_b ?_, rfl⟩
    all_goals (rw [HB.out, Bool.eq_iff_iff]; clear HB e0 e1 e2 e3; simp_all [listsB] <;> (intros; omega))
  have q4 : (k == 4) = false := beq_eq_false_iff_ne.mpr k4
  by_cases k5 : k = 5
  · subst k5
    go_enter Tryd.func97, Tryd.ntmps97
    go_wp2_with fail
    all_goals go_ret
    all_goals refine ⟨ret_b ?_, rfl⟩
    all_goals (rw [HB.out, Bool.eq_iff_iff]; clear HB e0 e1 e2 e3; simp_all [listsB] <;> (intros; omega))
  have q5 : (k == 5) = false := beq_eq_false_iff_ne.mpr k5
  by_cases k6 : k = 6
  · subst k6
    go_enter Tryd.func97, Tryd.ntmps97
    go_wp2_with fail
    all_goals go_ret
    all_goals refine ⟨ret_b ?_, rfl⟩
    all_goals (rw [HB.out, Bool.eq_iff_iff]; clear HB e0 e1 e2 e3; simp_all [listsB] <;> (intros; omega))
  have q6 : (k == 6) = false := beq_eq_false_iff_ne.mpr k6
  by_cases k7 : k = 7
  · subst k7
    go_enter Tryd.func97, Tryd.ntmps97
    go_wp2_with fail
    all_goals go_ret
    all_goals refine ⟨ret_b ?_, rfl⟩
    all_goals (rw [HB.out, Bool.eq_iff_iff]; clear HB e0 e1 e2 e3; simp_all [listsB] <;> (intros; omega))
  have q7 : (k == 7) = false := beq_eq_false_iff_ne.mpr k7
  go_enter Tryd.func97, Tryd.ntmps97
  go_wp2_with fail
  all_goals go_ret
  all_goals refine ⟨ret_b ?_, rfl⟩
  all_goals (rw [HB.out, Bool.eq_iff_iff]; clear HB e0 e1 e2 e3; simp_all [listsB] <;> (intros; omega))
end Go.Proofs.YtiiolhnpnlmkjaaDoor.Tree
