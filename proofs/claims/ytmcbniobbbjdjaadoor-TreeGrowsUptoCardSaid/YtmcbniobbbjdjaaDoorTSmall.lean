/- The reference's Small by contract. No conditions but those told. -/
import Derived.Test.YtmcbniobbbjdjaaDoorTItems
namespace Go.Proofs.YtmcbniobbbjdjaaDoor.Tree
open Go.RowKit Go.Proofs.YtmcbniobbbjdjaaDoorW.PrintWords Go.Proofs.YtmcbniobbbjdjaaDoorW.PrintLast Go.Proofs.YtmcbniobbbjdjaaDoorW.PrintMore
set_option linter.unusedVariables false
set_option linter.unusedSimpArgs false
/-- An item of such a list, as it lies there. -/
def ItemAt (w0 W : World) (ad : Addr) (x : It) : Prop := ∃ A1 c1 A2 c2 A3 c3, (W.cell? ad = some (.int .i64 x.f0.f0) ∧ W.cell? ⟨ad.block, ad.off + 1, none⟩ = some (.slice A1 x.f0.f1.length c1) ∧ W.cell? ⟨ad.block, ad.off + 2, none⟩ = some (.slice A2 x.f0.f2.length c2) ∧ W.cell? ⟨ad.block, ad.off + 3, none⟩ = some (.slice A3 x.f0.f3.length c3) ∧
  W.cell? ⟨ad.block, ad.off + 4, none⟩ = some (.int .i64 x.f1) ∧ W.cell? ⟨ad.block, ad.off + 5, none⟩ = some (.int .i64 x.f2)) ∧ IsG w0 (.agg #[.int .i64 x.f0.f0, .slice A1 x.f0.f1.length c1, .slice A2 x.f0.f2.length c2, .slice A3 x.f0.f3.length c3]) x.f0
theorem Items.at_ {w0 W : World} {A : Option Addr} {n c : Nat} {l : List It} (h : Items w0 W (.slice A n c) l) (k : Nat) (hk : k < l.length) : n = l.length ∧ ∃ ad, A = some ad ∧ ItemAt w0 W (ad.add (k * 6)) l[k] := by
  obtain ⟨hn, _, hC⟩ := Kd.R_reads' h
  refine ⟨hn, ?_⟩
  obtain ⟨ad, cs, e, _, hK, hc0⟩ := Kd.C_get hC zIt (k : Int) (by omega) (by omega)
  rw [Int.toNat_natCast] at hK hc0
  have hx : l.getD k zIt = l[k] := by simp [List.getD_eq_getElem?_getD, hk]
  rw [hx] at hK
  have hc : ∀ j u, cs[j]? = some u → W.cell? (ad.add (k * 6 + j)) = some u := hc0
  have hK' : kIt.K w0 l[k] cs := hK
  obtain ⟨A1, c1, A2, c2, A3, c3, rfl, r⟩ := kIt_open hK'
  exact ⟨ad, e, A1, c1, A2, c2, A3, c3, ⟨hc 0 _ rfl, by rw [← add_field _ _ 1 (by omega)]; exact hc 1 _ rfl, by rw [← add_field _ _ 2 (by omega)]; exact hc 2 _ rfl, by rw [← add_field _ _ 3 (by omega)]; exact hc 3 _ rfl, by rw [← add_field _ _ 4 (by omega)]; exact hc 4 _ rfl, by rw [← add_field _ _ 5 (by omega)]; exact hc 5 _ rfl⟩,
    A1, c1, A2, c2, A3, c3, rfl, r⟩
theorem ItemAt.below {w0 W W1 : World} {ad : Addr} {x : It} (h : ItemAt w0 W ad x) (hb : Below W.heap.size W W1) : ItemAt w0 W1 ad x := by
  obtain ⟨A1, c1, A2, c2, A3, c3, ⟨e0, e1, e2, e3, e4, e5⟩, r⟩ := h
  exact ⟨A1, c1, A2, c2, A3, c3, ⟨cell_below hb e0, cell_below hb e1, cell_below hb e2, cell_below hb e3, cell_below hb e4, cell_below hb e5⟩, r⟩
/-- The items that the reference looks at. -/
def seen (g : Ge) : List It := (nodes g 1 0).take 65538
theorem seen_len (g : Ge) : (seen g).length ≤ 65538 := by unfold seen; rw [List.length_take]; omega
theorem seen_mem {g : Ge} {y : It} (h : y ∈ seen g) : y ∈ nodes g 1 0 := List.mem_of_mem_take h
def isSmall (g : Ge) : Bool := decide ((seen g).length + ptsOf (seen g) ≤ 65536)
theorem ptsOf_append (a b : List It) : ptsOf (a ++ b) = ptsOf a + ptsOf b := by
  have : ∀ (l : List It) (m : Nat), l.foldl (fun n x => n + (own x.f0).length) m = m + l.foldl (fun n x => n + (own x.f0).length) 0 := by
    intro l
    induction l with
    | nil => intro m; simp
    | cons x l ih => intro m; rw [List.foldl_cons, List.foldl_cons, ih, ih (0 + _)]; omega
  unfold ptsOf
  rw [List.foldl_append, this]
theorem isSmall_iff (g : Ge) : isSmall g = true ↔ (nodes g 1 0).length + ptsOf (nodes g 1 0) ≤ 65536 := by
  unfold isSmall
  rw [decide_eq_true_iff]
  by_cases h : (nodes g 1 0).length ≤ 65538
  · unfold seen; rw [List.take_of_length_le h]
  · have h2 : (seen g).length = 65538 := by unfold seen; rw [List.length_take]; omega
    omega
theorem seen_small {g : Ge} (h : isSmall g = true) : seen g = nodes g 1 0 := by
  have := (isSmall_iff g).1 h
  unfold seen; rw [List.take_of_length_le (by omega)]
set_option maxRecDepth 100000 in
set_option maxHeartbeats 4000000 in
theorem small_calls (v : Value) (g : Ge) (w : World) (hv : IsG w v g) (hbk : g.bulk ≤ 1073741824) :
    Calls Tryd.prog 8 #[v] w fun e w' => e = .returned (.bool (isSmall g)) ∧ Below w.heap.size w w' := by
  have hv' := hv
  obtain ⟨A1, c1, A2, c2, A3, c3, rfl, l1, h1, l2, h2, l3, h3⟩ := hv'
  have hu := Tryd.underlying26
  have HV := Aside0.mk hv
  clear h1 h2 h3 hv
  have HB := Aside0.mk (Below.refl w.heap.size w)
  go_enter Tryd.func8, Tryd.ntmps8
  go_wp2_with (first
    | ((with_reducible refine gate_dst (N := 1) rfl ?_); refine box_event ?hg (N := 1) ?hd (cs := #[.int .i64 g.f0, .slice A1 g.f1.length c1, .slice A2 g.f2.length c2, .slice A3 g.f3.length c3]) (t := 26) ?hr ?_; (case hd => rfl); (case hg => rfl); (case hr => first | (go_simp; done) | (go_simp; rfl)); intro gb_ hgb_ wb_ hbox_ hbb_; have GE := Aside0.mk (show w.heap.size ≤ gb_ from by rw [hgb_]; exact below_size (by repeat (first | (with_reducible first | exact HB.out | apply below_alloc | apply pw_below_drewN | apply below_drew1) | exact HB.out))); have n_ := Aside0.mk (below_step (by repeat (first | (with_reducible first | exact HB.out | apply below_alloc | apply pw_below_drewN | apply below_drew1) | exact HB.out)) hbb_); clear HB; have HB := n_; have BK := Aside0.mk hbox_; (have z0_ : wb_.cell? ⟨gb_, 0, none⟩ = some (.int .i64 g.f0) := (blk_cell BK.out 0).trans rfl; have z1_ : wb_.cell? ⟨gb_, 1, none⟩ = some (.slice A1 g.f1.length c1) := (blk_cell BK.out 1).trans rfl; have z2_ : wb_.cell? ⟨gb_, 2, none⟩ = some (.slice A2 g.f2.length c2) := (blk_cell BK.out 2).trans rfl; have z3_ : wb_.cell? ⟨gb_, 3, none⟩ = some (.slice A3 g.f3.length c3) := (blk_cell BK.out 3).trans rfl); clear n_ hbox_ hbb_ hgb_))
  refine (items_calls w g _ 1 0 (.slice none 0 0) [] _ HV.out (by omega) (by omega) hbk HB.out (Kd.R_nil _ _ _ _ _) (by simp)).mono ?_
  rintro e w2 ⟨v2, rfl, ho2, hb2, _⟩
  rw [List.nil_append] at ho2
  have hL := seen_len g
  obtain ⟨A2', c2', e2⟩ := Kd.R_slice ho2
  change v2 = .slice A2' (seen g).length c2' at e2
  subst e2
  have HO := Aside0.mk (show Items w w2 _ (seen g) from ho2)
  clear HB ho2 BK GE
  have HB := Aside0.mk hb2
  clear hb2
  go_wp2_with fail
  go_loopg [4, 5] (seen g).length (fun kq n i wr => ∃ k : Nat, k + kq = (seen g).length ∧ i = .int .i64 (k : Int) ∧ n = .int .i64 (((seen g).length + ptsOf ((seen g).take k) : Nat) : Int) ∧ Aside0 (Below w2.heap.size w2 wr))
  case atStart => exact ⟨0, by omega, rfl, by simp [ptsOf], ⟨Below.refl _ _⟩⟩
  case round =>
    obtain ⟨k, hk, rfl, rfl, HK⟩ := hrel
    have hp := ptsOf_le ((seen g).take k) 1073741824 (fun y hy => by have := nodes_bulk (seen_mem (List.mem_of_mem_take hy)); have := own_len y.f0; omega)
    rw [List.length_take] at hp
    have hp2 : min k (seen g).length * 1073741824 ≤ 65538 * 1073741824 := Nat.mul_le_mul_right _ (by omega)
    cases gk with
    | zero =>
      have hlt : ¬ ((k : Int) < ((seen g).length : Int)) := by omega
      obtain rfl : k = (seen g).length := by omega
      rw [List.take_length] at hp ⊢
      clear hp2
      go_wp2_with fail
      go_ret
      exact ⟨ret_b (by unfold isSmall; rw [decide_eq_decide]; omega), below_step HB.out HK.out⟩
    | succ kq =>
      have hlt : k < (seen g).length := by omega
      obtain ⟨_, ad, ea, hI⟩ := HO.out.at_ k hlt
      subst ea
      obtain ⟨D1, d1, D2, d2, D3, d3, ⟨p0, p1, p2, p3, _, _⟩, hG⟩ := hI.below HK.out
      have hm := nodes_bulk (seen_mem (List.getElem_mem hlt))
      have ho := own_len (seen g)[k].f0
      have HG := Aside0.mk hG
      have HS := Aside0.mk (show ptsOf ((seen g).take (k + 1)) = ptsOf ((seen g).take k) + (own (seen g)[k].f0).length by rw [List.take_succ_eq_append_getElem hlt, ptsOf_snoc])
      clear hG hI
      go_wp2_with fail
      refine (rown_calls _ (seen g)[k].f0 _ (HG.out.below (below_step HB.out HK.out)) (by omega)).mono ?_
      rintro e w3 ⟨v3, rfl, ho3, hb3⟩
      obtain ⟨A4, c4, e4⟩ := Kd.R_slice ho3
      subst e4
      have HK3 := Aside0.mk (below_step HK.out hb3)
      clear ho3 hb3 HK
      go_wp2_with fail
      go_roundg kq
      case measure => omega
      case rel => exact ⟨k + 1, by omega, by go_num, by rw [HS.out]; go_num, HK3⟩
end Go.Proofs.YtmcbniobbbjdjaaDoor.Tree
