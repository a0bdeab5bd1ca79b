/- The reference's Small by contract. No conditions but those told. -/
import Derived.Test.YtiiolhnpnlmkjaaDoorTItems
namespace Go.Proofs.YtiiolhnpnlmkjaaDoor.Tree
open Go.RowKit Go.Proofs.YtiiolhnpnlmkjaaDoorW.PrintWords Go.Proofs.YtiiolhnpnlmkjaaDoorW.PrintLast Go.Proofs.YtiiolhnpnlmkjaaDoorW.PrintMore
set_option linter.unusedVariables false
set_option linter.unusedSimpArgs false
/-- An item of such a list, as it lies there. -/
def ItemAt (w0 W : World) (ad : Addr) (x : It) : Prop := ∃ A1 c1 A2 c2 A3 c3, (W.cell? ad = some (.int .i64 x.f0.f0) ∧ W.cell? ⟨ad.block, ad.off + 1, none⟩ = some (.slice A1 x.f0.f1.length c1) ∧ W.cell? ⟨ad.block, ad.off + 2, none⟩ = some (.slice A2 x.f0.f2.length c2) ∧ W.cell? ⟨ad.block, ad.off + 3, none⟩ = some (.slice A3 x.f0.f3.length c3) ∧
  W.cell? ⟨ad.block, ad.off + 4, none⟩ = some (.int .i64 x.f1) ∧ W.cell? ⟨ad.block, ad.off + 5, none⟩ = some (.int .i64 x.f2)) ∧ IsG w0 (.agg #[.int .i64 x.f0.f0, .slice A1 x.f0.f1.length c1, .slice A2 x.f0.f2.length c2, .slice A3 x.f0.f3.length c3]) x.f0
theorem Items.at_ {w0 W : World} {A : Option Addr} {n c : Nat} {l : List It} (h : Items w0 W (.slice A n c) l) (k : Nat) (hk : k < l.length) : n = l.length ∧ ∃ ad, A = some ad ∧ ItemAt w0 W (ad.add (k * 6)) l[k] := by
  obtain ⟨hn, _, hC⟩ := Kd.R_reads' h
  refine ⟨hn, ?_⟩
  obtain ⟨ad, cs, e, _, hK, hc0⟩ := Kd.C_get hC zIt (k : Int) (by omega) (by omega)
  rw [Int.toNat_natCast] at hK hc0
  have hx : l.getD k zIt = l[k] := by simp [List.getD_eq_getElem?_getD, hk]
  rw [hx] at hK
  have hc : ∀ j u, cs[j]? = some u → W.cell? (ad.add (k * 6 + j)) = some u := hc0
  have hK' : kIt.K w0 l[k] cs := hK
  obtain ⟨A1, c1, A2, c2, A3, c3, rfl, r⟩ := kIt_open hK'
  exact ⟨ad, e, A1, c1, A2, c2, A3, c3, ⟨hc 0 _ rfl, by rw [← add_field _ _ 1 (by omega)]; exact hc 1 _ rfl, by rw [← add_field _ _ 2 (by omega)]; exact hc 2 _ rfl, by rw [← add_field _ _ 3 (by omega)]; exact hc 3 _ rfl, by rw [← add_field _ _ 4 (by omega)]; exact hc 4 _ rfl, by rw [← add_field _ _ 5 (by omega)]; exact hc 5 _ rfl⟩,
    A1, c1, A2, c2, A3, c3, rfl, r⟩
theorem ItemAt.below {w0 W W1 : World} {ad : Addr} {x : It} (h : ItemAt w0 W ad x) (hb : Below W.heap.size W W1) : ItemAt w0 W1 ad x := by
  obtain ⟨A1, c1, A2, c2, A3, c3, ⟨e0, e1, e2, e3, e4, e5⟩, r⟩ := h
  exact ⟨A1, c1, A2, c2, A3, c3, ⟨cell_below hb e0, cell_below hb e1, cell_below hb e2, cell_below hb e3, cell_below hb e4, cell_below hb e5⟩, r⟩
/-- The items that the reference looks at. -/
def seen (g : Ge) : List It := (nodes g 1 0).take 65538
theorem seen_len (g : Ge) : (seen g).length ≤ 65538 := by unfold seen; rw [List.length_take]; omega
theorem seen_mem {g : Ge} {y : It} (h : y ∈ seen g) : y ∈ nodes g 1 0 := List.mem_of_mem_take h
def isSmall (g : Ge) : Bool := decide ((seen g).length + ptsOf (seen g) ≤ 65536)
theorem ptsOf_append (a b : List It) : ptsOf (a ++ b) = ptsOf a + ptsOf b := by
  have : ∀ (l : List It) (m : Nat), l.foldl (fun n x => n + (own x.f0).length) m = m + l.foldl (fun n x => n + (own x.f0).length) 0 := by
    intro l
    induction l with
    | nil => intro m; simp
    | cons x l ih => intro m; rw [List.foldl_cons, List.foldl_cons, ih, ih (0 + _)]; omega
  unfold ptsOf
  rw [List.foldl_append, this]
theorem isSmall_iff (g : Ge) : isSmall g = true ↔ (nodes g 1 0).length + ptsOf (nodes g 1 0) ≤ 65536 := by
  unfold isSmall
  rw [decide_eq_true_iff]
  by_cases h : (nodes g 1 0).length ≤ 65538
  · unfold seen; rw [List.take_of_length_le h]
  · have h2 : (seen g).length = 65538 := by unfold seen; rw [List.length_take]; omega
    omega
theorem seen_small {g : Ge} (h : isSmall g = true) : seen g = nodes g 1 0 := by
  have := (isSmall_iff g).1 h
  unfold seen; rw [List.take_of_length_le (by omega)]
end Go.Proofs.YtiiolhnpnlmkjaaDoor.Tree
