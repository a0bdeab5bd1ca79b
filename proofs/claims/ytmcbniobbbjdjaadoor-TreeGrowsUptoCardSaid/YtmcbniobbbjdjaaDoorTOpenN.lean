/- What an argument's reading says: a list of nodes weighs no more than what is read. No conditions. -/
import Derived.Test.YtmcbniobbbjdjaaDoorTOpen
import Derived.Test.YtmcbniobbbjdjaaDoorTGrowSem
namespace Go.Proofs.YtmcbniobbbjdjaaDoor.Tree
open Go.RowKit Go.Proofs.YtmcbniobbbjdjaaDoorW.PrintWords Go.Proofs.YtmcbniobbbjdjaaDoorW.PrintLast Go.Proofs.YtmcbniobbbjdjaaDoorW.PrintMore
set_option linter.unusedVariables false
theorem cellsInt : Tryd.prog.cellsOf 3 = 1 := by kernel_rfl
theorem cellsNd : Tryd.prog.cellsOf 54 = 3 := by kernel_rfl
theorem list3 {α : Type} : ∀ {l : List α}, l.length = 3 → ∃ a b c, l = [a, b, c]
  | [a, b, c], _ => ⟨a, b, c, rfl⟩
section
variable {H : Type} {enc : TypeId × Value → H} {W : World} {base : Nat} {sp : Nat → Bool} {held : Bool}
theorem open_int {n : Nat} {cs : List Value} {y : DataW H × List MemPlace} (h : DataW.trod enc Tryd.prog W base sp held n 3 cs = some y) : ∃ i : Int, (Kd.int .i64).K W i cs ∧ 1 ≤ Rows.uptoBulk y.1 := by
  obtain ⟨a, ea, _⟩ := DataW.trod_int Tryd.underlying3 h
  exact ⟨a, ea, one_le _⟩
set_option maxRecDepth 100000 in
theorem open_nd {n : Nat} {cs : List Value} {y : DataW H × List MemPlace} (h : DataW.trod enc Tryd.prog W base sp held n 54 cs = some y) : ∃ x : Nd, kNd.K W x cs ∧ ndW x ≤ Rows.uptoBulk y.1 := by
  obtain ⟨xs, m, rfl, rfl, hl, hx, hf⟩ := DataW.trod_struct Tryd.underlying54 h
  rw [cellsNd] at hl
  obtain ⟨u0, u1, u2, rfl⟩ := list3 hl
  have h0 := hf 0 _ rfl
  have h1 := hf 1 _ rfl
  have h2 := hf 2 _ rfl
  obtain ⟨y0, y1, y2, rfl⟩ := list3 (show xs.length = 3 from hx)
  obtain ⟨k, ek, _⟩ := DataW.trod_int Tryd.underlying3 (show DataW.trod enc Tryd.prog W base sp held m 3 [u0] = some y0 from h0)
  cases ek
  obtain ⟨A1, c1, s, e1, l1, r1, b1⟩ := open_row (Kd.int .i64) (fun _ => 1) (t := 52) (e := 3) Tryd.underlying52 cellsInt (fun m' cs y _ h => open_int h) (show DataW.trod enc Tryd.prog W base sp held m 52 [u1] = some y1 from h1)
  obtain ⟨A2, c2, l, e2, l2, r2, b2⟩ := open_row kPt (fun _ => 1) (t := 22) (e := 65) Tryd.underlying22 cellsPt (fun m' cs y _ h => open_pt h) (show DataW.trod enc Tryd.prog W base sp held m 22 [u2] = some y2 from h2)
  cases e1
  cases e2
  rw [sum_one] at b1 b2
  refine ⟨⟨k, s, l⟩, kNd_mk W ⟨k, s, l⟩ l1 r1 l2 r2, ?_⟩
  unfold ndW
  simp only [List.map_cons, List.map_nil, Rows.uptoBulk, Rows.uptoBulkAll]
  omega
end
end Go.Proofs.YtmcbniobbbjdjaaDoor.Tree
