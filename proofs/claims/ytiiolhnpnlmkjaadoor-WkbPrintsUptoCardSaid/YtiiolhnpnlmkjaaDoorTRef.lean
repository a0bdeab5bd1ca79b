/- The reference's own and items by contracts. No conditions but those told. -/
import Derived.Test.YtiiolhnpnlmkjaaDoorTLeaf
namespace Go.Proofs.YtiiolhnpnlmkjaaDoor.Tree
open Go.RowKit Go.Proofs.YtiiolhnpnlmkjaaDoorW.PrintWords Go.Proofs.YtiiolhnpnlmkjaaDoorW.PrintLast Go.Proofs.YtiiolhnpnlmkjaaDoorW.PrintMore
set_option linter.unusedVariables false
set_option linter.unusedSimpArgs false
theorem infoPt : (Tryd.prog.info? 82).map (fun i => (i.zero, i.size, i.bytes)) = some (some (.agg #[.int .u64 0, .int .u64 0]), 2, 16) := by kernel_rfl
theorem infoIt : (Tryd.prog.info? 139).map (fun i => (i.zero, i.size, i.bytes)) = some (some (.agg #[.int .i64 0, .slice none 0 0, .slice none 0 0, .slice none 0 0, .int .i64 0, .int .i64 0]), 6, 96) := by kernel_rfl
def ownTo (g : Ge) (k : Nat) : List Pt := g.f1 ++ (g.f2.take k).flatten
theorem ownTo_succ (g : Ge) (k : Nat) (h : k < g.f2.length) : ownTo g (k + 1) = ownTo g k ++ g.f2[k] := by
  unfold ownTo
  rw [List.take_succ_eq_append_getElem h, List.flatten_append]; simp
theorem ownTo_all (g : Ge) : ownTo g g.f2.length = own g := by unfold ownTo own; rw [List.take_length]
theorem ownTo_len (g : Ge) (k : Nat) : (ownTo g k).length = g.f1.length + upTo g.f2 k := by unfold ownTo upTo; rw [List.length_append]
set_option maxRecDepth 100000 in
set_option maxHeartbeats 4000000 in
theorem rown_calls (v : Value) (g : Ge) (w : World) (hv : IsG w v g) (hbk : g.bulk ≤ 1073741824) :
    Calls Tryd.prog 64 #[v] w fun e w' => ∃ v0, e = .returned v0 ∧ Kd.R kPt 82 w' w.heap.size (fun _ => True) v0 (own g) ∧ Below w.heap.size w w' := by
  obtain ⟨A1, c1, A2, c2, A3, c3, rfl, l1, h1, l2, h2, l3, h3⟩ := hv
  have hbq := g.bulk_eq
  have H1 := Aside0.mk h1
  have H2 := Aside0.mk h2
  have hu := Tryd.underlying28
  have U := Aside0.mk (upTo_le g.f2)
  clear h1 h2 h3
  have HB := Aside0.mk (Below.refl w.heap.size w)
  have HO := Aside0.mk (Kd.R_nil kPt 82 w w.heap.size (fun _ => True))
  go_enter Tryd.func64, Tryd.ntmps64
  go_wp2_with (first
    | ((with_reducible refine gate_dst (N := 1) rfl ?_); refine box_event ?hg (N := 1) ?hd (cs := #[.int .i64 g.f0, .slice A1 g.f1.length c1, .slice A2 g.f2.length c2, .slice A3 g.f3.length c3]) (t := 28) ?hr ?_; (case hd => rfl); (case hg => rfl); (case hr => first | (go_simp; done) | (go_simp; rfl)); intro gb_ hgb_ wb_ hbox_ hbb_; have GE := Aside0.mk (show w.heap.size ≤ gb_ from by rw [hgb_]; exact below_size (by repeat (first | (with_reducible first | exact HB.out | apply below_alloc | apply pw_below_drewN | apply below_drew1) | exact HB.out))); have n_ := Aside0.mk (below_step (by repeat (first | (with_reducible first | exact HB.out | apply below_alloc | apply pw_below_drewN | apply below_drew1) | exact HB.out)) hbb_); clear HB; have HB := n_; have BK := Aside0.mk hbox_; (have n_ := Aside0.mk (Kd.R_below HO.out hbb_); clear HO; have HO := n_; clear n_; have z0_ : wb_.cell? ⟨gb_, 0, none⟩ = some (.int .i64 g.f0) := (blk_cell BK.out 0).trans rfl; have z1_ : wb_.cell? ⟨gb_, 1, none⟩ = some (.slice A1 g.f1.length c1) := (blk_cell BK.out 1).trans rfl; have z2_ : wb_.cell? ⟨gb_, 2, none⟩ = some (.slice A2 g.f2.length c2) := (blk_cell BK.out 2).trans rfl; have z3_ : wb_.cell? ⟨gb_, 3, none⟩ = some (.slice A3 g.f3.length c3) := (blk_cell BK.out 3).trans rfl); clear n_ hbox_ hbb_ hgb_)
    | ((with_reducible refine gate_builtin (b := .append) (xs := #[.tmp 5, .tmp 7]) rfl ?_); at_builtin; refine Kd.R_append_rows (kPt) (w0 := w) w.heap.size rfl (.tmp 5) (.tmp 7) 24 82 (.agg #[.int .u64 0, .int .u64 0]) 16 rfl Tryd.underlying24 infoPt rfl (by decide) (by omega) (.slice none 0 0) ([]) (g.f1) _ _ _ (fun _ => True) (fun _ => False) rfl rfl ?aO ?aR (fun _ _ h => h) (fun _ h => h.elim) ?aF ?aB ?aS ?aL ?_; (case aR => exact Kd.C_below H1.out (by repeat (first | (with_reducible first | exact HB.out | apply below_alloc | apply pw_below_drewN | apply below_drew1) | exact HB.out))); (case aB => exact (by repeat (first | (with_reducible first | exact HB.out | apply below_alloc | apply pw_below_drewN | apply below_drew1) | exact HB.out))); (case aF => exact (fun _ _ => trivial)); (case aO => exact (by (with_reducible repeat (first | apply Kd.R_alloc | apply Kd.R_drewN | apply Kd.R_drew)); exact HO.out)); (case aS => exact (below_size (by repeat (first | (with_reducible first | exact HB.out | apply below_alloc | apply pw_below_drewN | apply below_drew1) | exact HB.out)))); (case aL => show (0 + g.f1.length) * 16 ≤ _; omega); intro v1_ w1_ ho_ hb_ hg_ hat_; (have n_ := Aside0.mk (blk_grown BK.out hg_ (Kd.R_ne HO.out BK.out (by decide))); clear BK; have BK := n_; clear n_); clear HB HO; have HB := Aside0.mk hb_; have HO := Aside0.mk ho_; clear hb_ ho_ hg_ hat_))
  go_loopg [3, 4] g.f2.length (fun kq n i wr => ∃ k : Nat, k + kq = g.f2.length ∧ i = .int .i64 (k : Int) ∧ Aside0 (Kd.R kPt 82 wr w.heap.size (fun _ => True) n (ownTo g k)) ∧ Aside0 (Below w.heap.size w wr) ∧ Aside0 (wr.heap[gb_]? = some (.cells #[.int .i64 g.f0, .slice A1 g.f1.length c1, .slice A2 g.f2.length c2, .slice A3 g.f3.length c3] 28 (0, 0))))
  case atStart => exact ⟨0, by omega, rfl, ⟨by have := HO.out; simpa [ownTo] using this⟩, HB, BK⟩
  case round =>
    clear HO HB BK
    obtain ⟨k, hk, rfl, HO, HB, BK⟩ := hrel
    have z0_ : wr.cell? ⟨gb_, 0, none⟩ = some (.int .i64 g.f0) := (blk_cell BK.out 0).trans rfl; have z1_ : wr.cell? ⟨gb_, 1, none⟩ = some (.slice A1 g.f1.length c1) := (blk_cell BK.out 1).trans rfl; have z2_ : wr.cell? ⟨gb_, 2, none⟩ = some (.slice A2 g.f2.length c2) := (blk_cell BK.out 2).trans rfl; have z3_ : wr.cell? ⟨gb_, 3, none⟩ = some (.slice A3 g.f3.length c3) := (blk_cell BK.out 3).trans rfl
    cases gk with
    | zero =>
      have hlt : ¬ ((k : Int) < (g.f2.length : Int)) := by omega
      obtain rfl : k = g.f2.length := by omega
      go_wp2_with fail
      go_ret
      exact ⟨_, rfl, by have := HO.out; rwa [ownTo_all] at this, HB.out⟩
    | succ kq =>
      have hlt : k < g.f2.length := by omega
      obtain ⟨a2, A0, c0, ea, hx, hl, hc⟩ := at_L2 H2.out k (by omega) (by omega)
      subst ea
      have HE := Aside0.mk (upTo_succ g.f2 k hlt)
      rw [rd_L2_at _ _ hlt, Int.toNat_natCast] at hx
      rw [rd_L2_at _ _ hlt] at hc
      have hx2 := cell_below HB.out hx
      have HC := Aside0.mk hc
      have hb2 : (ownTo g k).length + (g.f2[k]).length ≤ g.bulk := by
        have := U.out (k + 1)
        rw [HE.out] at this
        rw [ownTo_len]
        omega
      clear hc hl hx
      go_wp2_with (first
        | ((with_reducible refine gate_builtin (b := .append) (xs := #[.tmp 16, .tmp 21]) rfl ?_); at_builtin; refine Kd.R_append_rows (kPt) (w0 := w) w.heap.size rfl (.tmp 16) (.tmp 21) 24 82 (.agg #[.int .u64 0, .int .u64 0]) 16 rfl Tryd.underlying24 infoPt rfl (by decide) (by omega) (_) (ownTo g k) (g.f2[k]) _ _ _ (fun _ => True) (fun _ => False) rfl rfl ?aO ?aR (fun _ _ h => h) (fun _ h => h.elim) ?aF ?aB ?aS ?aL ?_; (case aR => exact Kd.C_below HC.out (by repeat (first | (with_reducible first | exact HB.out | apply below_alloc | apply pw_below_drewN | apply below_drew1) | exact HB.out))); (case aB => exact (by repeat (first | (with_reducible first | exact HB.out | apply below_alloc | apply pw_below_drewN | apply below_drew1) | exact HB.out))); (case aF => exact (fun _ _ => trivial)); (case aO => exact (by (with_reducible repeat (first | apply Kd.R_alloc | apply Kd.R_drewN | apply Kd.R_drew)); exact HO.out)); (case aS => exact (below_size (by repeat (first | (with_reducible first | exact HB.out | apply below_alloc | apply pw_below_drewN | apply below_drew1) | exact HB.out)))); (case aL => omega); intro v1_ w1_ ho_ hb_ hg_ hat_; (have n_ := Aside0.mk (blk_grown BK.out hg_ (Kd.R_ne HO.out BK.out (by decide))); clear BK; have BK := n_; clear n_); clear HB HO; have HB := Aside0.mk hb_; have HO := Aside0.mk ho_; clear hb_ ho_ hg_ hat_))
      go_roundg kq
      case measure => omega
      case rel => exact ⟨k + 1, by omega, by go_num, ⟨by rw [ownTo_succ _ _ hlt]; exact HO.out⟩, HB, BK⟩
end Go.Proofs.YtiiolhnpnlmkjaaDoor.Tree
