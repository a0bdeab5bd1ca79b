/- Small functions of the package tree by contracts. -/
import Derived.Test.YtiiolhnpnlmkjaaDoorTSem
namespace Go.Proofs.YtiiolhnpnlmkjaaDoor.Tree
open Go.RowKit Go.Proofs.YtiiolhnpnlmkjaaDoorW.PrintWords Go.Proofs.YtiiolhnpnlmkjaaDoorW.PrintLast Go.Proofs.YtiiolhnpnlmkjaaDoorW.PrintMore
set_option linter.unusedVariables false
set_option linter.unusedSimpArgs false
theorem rd_Ge_at (l : List Ge) (k : Nat) (h : k < l.length) : rd_Ge l (k : Int) = l[k] := by simp [rd_Ge, List.getD_eq_getElem?_getD, h]
theorem GAt.box {W : World} {v : Value} {g : Ge} (h : IsG W v g) {cs : Array Value} {b : Nat} (hb : W.heap[b]? = some (.cells cs 28 (0, 0))) (e : v = .agg cs) : GAt W ⟨b, 0, none⟩ g := by
  obtain ⟨A1, c1, A2, c2, A3, c3, rfl, r⟩ := h
  injection e with e
  subst e
  exact ⟨A1, c1, A2, c2, A3, c3, (blk_cell hb 0).trans rfl, (blk_cell hb 1).trans rfl, (blk_cell hb 2).trans rfl, (blk_cell hb 3).trans rfl, r⟩
theorem ret_i {k : IntKind} {a b : Int} (h : a = b) : Ending.returned (.int k a) = Ending.returned (.int k b) := by rw [h]
theorem ret_b {a b : Bool} (h : a = b) : Ending.returned (.bool a) = Ending.returned (.bool b) := by rw [h]
/-- How many elements the first k lists have together. -/
def upTo {α : Type} (l : List (List α)) (k : Nat) : Nat := (l.take k).flatten.length
theorem upTo_succ {α : Type} (l : List (List α)) (k : Nat) (h : k < l.length) : upTo l (k + 1) = upTo l k + l[k].length := by
  unfold upTo
  rw [List.take_succ_eq_append_getElem h, List.flatten_append, List.length_append]; simp
theorem upTo_all {α : Type} (l : List (List α)) : upTo l l.length = l.flatten.length := by unfold upTo; rw [List.take_length]
theorem upTo_zero {α : Type} (l : List (List α)) : upTo l 0 = 0 := by simp [upTo]
theorem upTo_le {α : Type} (l : List (List α)) (k : Nat) : upTo l k ≤ l.flatten.length := by
  have e : l.flatten.length = ((l.take k).flatten ++ (l.drop k).flatten).length := by rw [← List.flatten_append, List.take_append_drop]
  rw [e, List.length_append]; unfold upTo; omega
theorem rd_L2_at (l : List (List Pt)) (k : Nat) (h : k < l.length) : rd_L2 l (k : Int) = l[k] := by simp [rd_L2, List.getD_eq_getElem?_getD, h]
set_option maxHeartbeats 1000000 in
theorem own_calls (g : Ge) (ad : Addr) (w : World) (h : GAt w ad g) (hs : g.bulk ≤ 1073741824) :
    Calls Tryd.prog 70 #[.pointer (some ad)] w fun e w' => e = .returned (.int .i64 (own g).length) ∧ w' = w := by
  obtain ⟨A1, c1, A2, c2, A3, c3, e0, e1, e2, e3, l1, h1, l2, h2, l3, h3⟩ := h
  have H2 := Aside0.mk h2
  clear h1 h2 h3 e0 e3
  go_enter Tryd.func70, Tryd.ntmps70
  go_wp2_with fail
  have B2 := g.bulk_eq
  have U := upTo_le g.f2
  have UH := Aside0.mk U
  clear U
  go_loop [3, 16] (fun n i => ∃ k : Nat, k ≤ g.f2.length ∧ i = .int .i64 (k : Int) ∧ n = .int .i64 ((g.f1.length + upTo g.f2 k : Nat) : Int)) (fun _ i => g.f2.length - (intOf i).toNat)
  case atStart => exact ⟨0, Nat.zero_le _, rfl, by rw [upTo_zero]; rfl⟩
  case round =>
    obtain ⟨k, hk, rfl, rfl⟩ := hrel
    by_cases hlt : k < g.f2.length
    · obtain ⟨a2, A0, c0, rfl, hx, hl, hc⟩ := at_L2 H2.out k (by omega) (by omega)
      have HE := Aside0.mk (upTo_succ g.f2 k hlt)
      rw [rd_L2_at _ _ hlt, Int.toNat_natCast] at hx
      have hf := UH.out (k + 1)
      have hf2 : upTo g.f2 k + (g.f2[k]).length ≤ g.f2.flatten.length := by rw [← HE.out]; exact hf
      clear hc hl hf
      go_wp2_with fail
      go_round
      case rel => exact ⟨k + 1, by omega, by go_num, by rw [HE.out]; go_num⟩
      case measure => simp [intOf]; omega
    · have hk2 : k = g.f2.length := by omega
      subst hk2
      go_wp2_with fail
      go_ret
      exact ⟨ret_i (by rw [own, List.length_append, upTo_all]; omega), rfl⟩
end Go.Proofs.YtiiolhnpnlmkjaaDoor.Tree
