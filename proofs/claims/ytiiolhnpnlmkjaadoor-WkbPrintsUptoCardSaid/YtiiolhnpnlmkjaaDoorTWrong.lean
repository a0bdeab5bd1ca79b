/- What is wrong with a geometry, by contract: wrong. No conditions. -/
import Derived.Test.YtiiolhnpnlmkjaaDoorTLists
import Derived.Test.YtiiolhnpnlmkjaaDoorTClass
namespace Go.Proofs.YtiiolhnpnlmkjaaDoor.Tree
open Go.RowKit Go.Proofs.YtiiolhnpnlmkjaaDoorW.PrintWords Go.Proofs.YtiiolhnpnlmkjaaDoorW.PrintLast Go.Proofs.YtiiolhnpnlmkjaaDoorW.PrintMore
set_option linter.unusedVariables false
set_option linter.unusedSimpArgs false
/-- What is wrong with an item, of which so many stand up to it. -/
def wrongC (x : It) (total : Int) : Int :=
  if 256 < x.f1 then 151 else if listsB x.f0 && fitsB x.f0.f0 x.f2 then (if 65536 < total then 152 else if finL x.f0.f1 && x.f0.f2.all finL then 0 else 155) else 150
set_option maxRecDepth 100000 in
set_option maxHeartbeats 4000000 in
theorem wrong_calls (x : It) (total : Int) (ad : Addr) (w : World) (h : GAt w ad x.f0) (hs : x.f0.bulk ≤ 1073741824) :
    Calls Tryd.prog 71 #[.agg #[.pointer (some ad), .int .i64 x.f1, .int .i64 x.f2], .int .i64 total] w fun e w' => e = .returned (.int .i64 (wrongC x total)) ∧ Below w.heap.size w w' := by
  have HLs := Aside0.mk (fun W (hb : Below w.heap.size w W) => lists_calls x.f0 ad W (h.below hb) hs)
  have HFs := Aside0.mk (fun W => fits_calls x.f0.f0 x.f2 W)
  obtain ⟨A1, c1, A2, c2, A3, c3, e0, e1, e2, e3, l1, h1, l2, h2, l3, h3⟩ := h
  have H2 := Aside0.mk h2
  have bl := x.f0.bulk_eq
  have b1 : x.f0.f1.length ≤ 1073741824 := by omega
  have b2 : x.f0.f2.length ≤ 1073741824 := by omega
  have HFL := Aside0.mk (fun W (hb : Below w.heap.size w W) => finite_calls A1 c1 x.f0.f1 W (Kd.C_below h1 hb) b1)
  have HB := Aside0.mk (Below.refl w.heap.size w)
  have HBK := Aside0.mk (And.intro hs bl)
  have HM := Aside0.mk (upTo_le x.f0.f2)
  clear h1 h2 h3 bl hs
  obtain ⟨R, hR⟩ : ∃ R, R = wrongC x total := ⟨_, rfl⟩
  rw [← hR]
  have HR := Aside0.mk hR
  clear hR
  obtain ⟨lb, hlb⟩ : ∃ b, b = listsB x.f0 := ⟨_, rfl⟩
  obtain ⟨fb, hfb⟩ : ∃ b, b = fitsB x.f0.f0 x.f2 := ⟨_, rfl⟩
  obtain ⟨nb, hnb⟩ : ∃ b, b = finL x.f0.f1 := ⟨_, rfl⟩
  rw [← hlb] at HLs
  rw [← hfb] at HFs
  rw [← hnb] at HFL
  have HV := Aside0.mk (And.intro hlb (And.intro hfb hnb))
  clear hlb hfb hnb
  obtain ⟨⟨k, l, r, ps⟩, lv, of_⟩ := x
  dsimp only at *
  by_cases d1 : 256 < lv
  · go_enter Tryd.func71, Tryd.ntmps71
    go_wp2_with ((with_reducible refine gate_dst (N := 2) rfl ?_); refine box_event ?hg (N := 2) ?hd (cs := #[.pointer (some ad), .int .i64 lv, .int .i64 of_]) (t := 123) ?hr ?_; (case hd => rfl); (case hg => rfl); (case hr => first | (go_simp; done) | (go_simp; rfl)); intro gb_ hgb_ wb_ hbox_ hbb_; have GE := Aside0.mk (show w.heap.size ≤ gb_ from by rw [hgb_]; exact below_size (by repeat (first | (with_reducible first | exact HB.out | apply below_alloc | apply pw_below_drewN | apply below_drew1) | exact HB.out))); have n_ := Aside0.mk (below_step (by repeat (first | (with_reducible first | exact HB.out | apply below_alloc | apply pw_below_drewN | apply below_drew1) | exact HB.out)) hbb_); clear HB; have HB := n_; have BK := Aside0.mk hbox_; (have p0 : wb_.cell? ⟨gb_, 0, none⟩ = some (.pointer (some ad)) := (blk_cell BK.out 0).trans rfl; have p1 : wb_.cell? ⟨gb_, 1, none⟩ = some (.int .i64 lv) := (blk_cell BK.out 1).trans rfl; have p2 : wb_.cell? ⟨gb_, 2, none⟩ = some (.int .i64 of_) := (blk_cell BK.out 2).trans rfl; have z0_ := cell_below HB.out e0; have z1_ := cell_below HB.out e1; have z2_ := cell_below HB.out e2); clear n_ hbox_ hbb_ hgb_)
    go_ret
    refine ⟨ret_i ?_, HB.out⟩
    rw [HR.out, wrongC, if_pos d1]
  · cases lb with
    | false =>
      go_enter Tryd.func71, Tryd.ntmps71
      go_wp2_with ((with_reducible refine gate_dst (N := 2) rfl ?_); refine box_event ?hg (N := 2) ?hd (cs := #[.pointer (some ad), .int .i64 lv, .int .i64 of_]) (t := 123) ?hr ?_; (case hd => rfl); (case hg => rfl); (case hr => first | (go_simp; done) | (go_simp; rfl)); intro gb_ hgb_ wb_ hbox_ hbb_; have GE := Aside0.mk (show w.heap.size ≤ gb_ from by rw [hgb_]; exact below_size (by repeat (first | (with_reducible first | exact HB.out | apply below_alloc | apply pw_below_drewN | apply below_drew1) | exact HB.out))); have n_ := Aside0.mk (below_step (by repeat (first | (with_reducible first | exact HB.out | apply below_alloc | apply pw_below_drewN | apply below_drew1) | exact HB.out)) hbb_); clear HB; have HB := n_; have BK := Aside0.mk hbox_; (have p0 : wb_.cell? ⟨gb_, 0, none⟩ = some (.pointer (some ad)) := (blk_cell BK.out 0).trans rfl; have p1 : wb_.cell? ⟨gb_, 1, none⟩ = some (.int .i64 lv) := (blk_cell BK.out 1).trans rfl; have p2 : wb_.cell? ⟨gb_, 2, none⟩ = some (.int .i64 of_) := (blk_cell BK.out 2).trans rfl; have z0_ := cell_below HB.out e0; have z1_ := cell_below HB.out e1; have z2_ := cell_below HB.out e2); clear n_ hbox_ hbb_ hgb_)
      go_quiet ((first
        | (refine (HLs.out _ (by repeat (first | (with_reducible first | exact HB.out | apply below_alloc | apply pw_below_drewN | apply below_drew1) | exact HB.out))).mono ?_; rintro e w' ⟨rfl, rfl⟩; exact ⟨rfl, _, rfl⟩)
        | (refine (HFs.out _).mono ?_; rintro e w' ⟨rfl, rfl⟩; exact ⟨rfl, _, rfl⟩)))
      go_wp2_with fail
      go_ret
      refine ⟨ret_i ?_, (by repeat (first | (with_reducible first | exact HB.out | apply below_alloc | apply pw_below_drewN | apply below_drew1) | exact HB.out))⟩
      rw [HR.out, wrongC, if_neg (show ¬ 256 < lv by omega)]
      dsimp only
      rw [← HV.out.1]; rfl
    | true =>
      cases fb with
      | false =>
        go_enter Tryd.func71, Tryd.ntmps71
        go_wp2_with ((with_reducible refine gate_dst (N := 2) rfl ?_); refine box_event ?hg (N := 2) ?hd (cs := #[.pointer (some ad), .int .i64 lv, .int .i64 of_]) (t := 123) ?hr ?_; (case hd => rfl); (case hg => rfl); (case hr => first | (go_simp; done) | (go_simp; rfl)); intro gb_ hgb_ wb_ hbox_ hbb_; have GE := Aside0.mk (show w.heap.size ≤ gb_ from by rw [hgb_]; exact below_size (by repeat (first | (with_reducible first | exact HB.out | apply below_alloc | apply pw_below_drewN | apply below_drew1) | exact HB.out))); have n_ := Aside0.mk (below_step (by repeat (first | (with_reducible first | exact HB.out | apply below_alloc | apply pw_below_drewN | apply below_drew1) | exact HB.out)) hbb_); clear HB; have HB := n_; have BK := Aside0.mk hbox_; (have p0 : wb_.cell? ⟨gb_, 0, none⟩ = some (.pointer (some ad)) := (blk_cell BK.out 0).trans rfl; have p1 : wb_.cell? ⟨gb_, 1, none⟩ = some (.int .i64 lv) := (blk_cell BK.out 1).trans rfl; have p2 : wb_.cell? ⟨gb_, 2, none⟩ = some (.int .i64 of_) := (blk_cell BK.out 2).trans rfl; have z0_ := cell_below HB.out e0; have z1_ := cell_below HB.out e1; have z2_ := cell_below HB.out e2); clear n_ hbox_ hbb_ hgb_)
        go_quiet ((first
          | (refine (HLs.out _ (by repeat (first | (with_reducible first | exact HB.out | apply below_alloc | apply pw_below_drewN | apply below_drew1) | exact HB.out))).mono ?_; rintro e w' ⟨rfl, rfl⟩; exact ⟨rfl, _, rfl⟩)
          | (refine (HFs.out _).mono ?_; rintro e w' ⟨rfl, rfl⟩; exact ⟨rfl, _, rfl⟩)))
        go_wp2_with fail
        go_ret
        refine ⟨ret_i ?_, (by repeat (first | (with_reducible first | exact HB.out | apply below_alloc | apply pw_below_drewN | apply below_drew1) | exact HB.out))⟩
        rw [HR.out, wrongC, if_neg (show ¬ 256 < lv by omega)]
        dsimp only
        rw [← HV.out.1, ← HV.out.2.1]; rfl
      | true =>
        have HW := Aside0.mk (show wrongC ⟨⟨k, l, r, ps⟩, lv, of_⟩ total = if 65536 < total then 152 else if nb && r.all finL then 0 else 155 by
          rw [wrongC, if_neg (show ¬ 256 < lv by omega)]
          dsimp only
          rw [← HV.out.1, ← HV.out.2.1, ← HV.out.2.2]; rfl)
        by_cases d2 : 65536 < total
        · go_enter Tryd.func71, Tryd.ntmps71
          go_wp2_with ((with_reducible refine gate_dst (N := 2) rfl ?_); refine box_event ?hg (N := 2) ?hd (cs := #[.pointer (some ad), .int .i64 lv, .int .i64 of_]) (t := 123) ?hr ?_; (case hd => rfl); (case hg => rfl); (case hr => first | (go_simp; done) | (go_simp; rfl)); intro gb_ hgb_ wb_ hbox_ hbb_; have GE := Aside0.mk (show w.heap.size ≤ gb_ from by rw [hgb_]; exact below_size (by repeat (first | (with_reducible first | exact HB.out | apply below_alloc | apply pw_below_drewN | apply below_drew1) | exact HB.out))); have n_ := Aside0.mk (below_step (by repeat (first | (with_reducible first | exact HB.out | apply below_alloc | apply pw_below_drewN | apply below_drew1) | exact HB.out)) hbb_); clear HB; have HB := n_; have BK := Aside0.mk hbox_; (have p0 : wb_.cell? ⟨gb_, 0, none⟩ = some (.pointer (some ad)) := (blk_cell BK.out 0).trans rfl; have p1 : wb_.cell? ⟨gb_, 1, none⟩ = some (.int .i64 lv) := (blk_cell BK.out 1).trans rfl; have p2 : wb_.cell? ⟨gb_, 2, none⟩ = some (.int .i64 of_) := (blk_cell BK.out 2).trans rfl; have z0_ := cell_below HB.out e0; have z1_ := cell_below HB.out e1; have z2_ := cell_below HB.out e2); clear n_ hbox_ hbb_ hgb_)
          go_quiet ((first
            | (refine (HLs.out _ (by repeat (first | (with_reducible first | exact HB.out | apply below_alloc | apply pw_below_drewN | apply below_drew1) | exact HB.out))).mono ?_; rintro e w' ⟨rfl, rfl⟩; exact ⟨rfl, _, rfl⟩)
            | (refine (HFs.out _).mono ?_; rintro e w' ⟨rfl, rfl⟩; exact ⟨rfl, _, rfl⟩)))
          go_wp2_with fail
          go_ret
          refine ⟨ret_i ?_, (by repeat (first | (with_reducible first | exact HB.out | apply below_alloc | apply pw_below_drewN | apply below_drew1) | exact HB.out))⟩
          rw [HR.out, HW.out, if_pos d2]
        · cases nb with
          | false =>
            go_enter Tryd.func71, Tryd.ntmps71
            go_wp2_with ((with_reducible refine gate_dst (N := 2) rfl ?_); refine box_event ?hg (N := 2) ?hd (cs := #[.pointer (some ad), .int .i64 lv, .int .i64 of_]) (t := 123) ?hr ?_; (case hd => rfl); (case hg => rfl); (case hr => first | (go_simp; done) | (go_simp; rfl)); intro gb_ hgb_ wb_ hbox_ hbb_; have GE := Aside0.mk (show w.heap.size ≤ gb_ from by rw [hgb_]; exact below_size (by repeat (first | (with_reducible first | exact HB.out | apply below_alloc | apply pw_below_drewN | apply below_drew1) | exact HB.out))); have n_ := Aside0.mk (below_step (by repeat (first | (with_reducible first | exact HB.out | apply below_alloc | apply pw_below_drewN | apply below_drew1) | exact HB.out)) hbb_); clear HB; have HB := n_; have BK := Aside0.mk hbox_; (have p0 : wb_.cell? ⟨gb_, 0, none⟩ = some (.pointer (some ad)) := (blk_cell BK.out 0).trans rfl; have p1 : wb_.cell? ⟨gb_, 1, none⟩ = some (.int .i64 lv) := (blk_cell BK.out 1).trans rfl; have p2 : wb_.cell? ⟨gb_, 2, none⟩ = some (.int .i64 of_) := (blk_cell BK.out 2).trans rfl; have z0_ := cell_below HB.out e0; have z1_ := cell_below HB.out e1; have z2_ := cell_below HB.out e2); clear n_ hbox_ hbb_ hgb_)
            go_quiet ((first
              | (refine (HLs.out _ (by repeat (first | (with_reducible first | exact HB.out | apply below_alloc | apply pw_below_drewN | apply below_drew1) | exact HB.out))).mono ?_; rintro e w' ⟨rfl, rfl⟩; exact ⟨rfl, _, rfl⟩)
              | (refine (HFs.out _).mono ?_; rintro e w' ⟨rfl, rfl⟩; exact ⟨rfl, _, rfl⟩)))
            go_wp2_with fail
            refine (HFL.out _ (by repeat (first | (with_reducible first | exact HB.out | apply below_alloc | apply pw_below_drewN | apply below_drew1) | exact HB.out))).mono ?_
            rintro e w2 ⟨rfl, hb2⟩
            have HB2 := Aside0.mk (below_step (show Below w.heap.size w _ from (by repeat (first | (with_reducible first | exact HB.out | apply below_alloc | apply pw_below_drewN | apply below_drew1) | exact HB.out))) hb2)
            clear hb2
            go_wp2_with fail
            go_ret
            refine ⟨ret_i ?_, HB2.out⟩
            rw [HR.out, HW.out, if_neg (by omega)]; rfl
          | true =>
            go_enter Tryd.func71, Tryd.ntmps71
            go_wp2_with ((with_reducible refine gate_dst (N := 2) rfl ?_); refine box_event ?hg (N := 2) ?hd (cs := #[.pointer (some ad), .int .i64 lv, .int .i64 of_]) (t := 123) ?hr ?_; (case hd => rfl); (case hg => rfl); (case hr => first | (go_simp; done) | (go_simp; rfl)); intro gb_ hgb_ wb_ hbox_ hbb_; have GE := Aside0.mk (show w.heap.size ≤ gb_ from by rw [hgb_]; exact below_size (by repeat (first | (with_reducible first | exact HB.out | apply below_alloc | apply pw_below_drewN | apply below_drew1) | exact HB.out))); have n_ := Aside0.mk (below_step (by repeat (first | (with_reducible first | exact HB.out | apply below_alloc | apply pw_below_drewN | apply below_drew1) | exact HB.out)) hbb_); clear HB; have HB := n_; have BK := Aside0.mk hbox_; (have p0 : wb_.cell? ⟨gb_, 0, none⟩ = some (.pointer (some ad)) := (blk_cell BK.out 0).trans rfl; have p1 : wb_.cell? ⟨gb_, 1, none⟩ = some (.int .i64 lv) := (blk_cell BK.out 1).trans rfl; have p2 : wb_.cell? ⟨gb_, 2, none⟩ = some (.int .i64 of_) := (blk_cell BK.out 2).trans rfl; have z0_ := cell_below HB.out e0; have z1_ := cell_below HB.out e1; have z2_ := cell_below HB.out e2); clear n_ hbox_ hbb_ hgb_)
            go_quiet ((first
              | (refine (HLs.out _ (by repeat (first | (with_reducible first | exact HB.out | apply below_alloc | apply pw_below_drewN | apply below_drew1) | exact HB.out))).mono ?_; rintro e w' ⟨rfl, rfl⟩; exact ⟨rfl, _, rfl⟩)
              | (refine (HFs.out _).mono ?_; rintro e w' ⟨rfl, rfl⟩; exact ⟨rfl, _, rfl⟩)))
            go_wp2_with fail
            refine (HFL.out _ (by repeat (first | (with_reducible first | exact HB.out | apply below_alloc | apply pw_below_drewN | apply below_drew1) | exact HB.out))).mono ?_
            rintro e w2 ⟨rfl, hb2⟩
            have HB2 := Aside0.mk (below_step (show Below w.heap.size w _ from (by repeat (first | (with_reducible first | exact HB.out | apply below_alloc | apply pw_below_drewN | apply below_drew1) | exact HB.out))) hb2)
            have q2 := cell_below HB2.out e2
            have s0 := cell_below hb2 (a := ⟨gb_, 0, none⟩) (v := .pointer (some ad)) (by simpa using p0)
            clear hb2
            go_wp2_with fail
            have b2' : r.length < 9223372036854775807 := by omega
            have HBK2 := Aside0.mk (show ∀ (j : Nat) (h : j < r.length), (r[j]).length ≤ 1073741824 by
              intro j h
              have := HM.out (j + 1)
              rw [upTo_succ _ _ h] at this
              have := HBK.out
              omega)
            go_loopg [44] r.length (fun kq i wr => ∃ j : Nat, j + kq = r.length ∧ i = .int .i64 (j : Int) ∧ Aside0 ((r.take j).all finL = true) ∧ Aside0 (Below w.heap.size w wr))
            case atStart => exact ⟨0, by omega, rfl, ⟨rfl⟩, HB2⟩
            case round =>
              obtain ⟨j, hj, rfl, HF, HC⟩ := hrel
              cases gk with
              | zero =>
                have hlt : ¬ ((j : Int) < (r.length : Int)) := by omega
                obtain rfl : j = r.length := by omega
                go_wp2_with fail
                go_ret
                refine ⟨ret_i ?_, HC.out⟩
                have hF := HF.out
                rw [List.take_length] at hF
                rw [HR.out, HW.out, if_neg (by omega), hF]; rfl
              | succ kq =>
                have hlt : j < r.length := by omega
                obtain ⟨a2, A0, c0, rfl, hx, hl, hc⟩ := at_L2 H2.out j (by omega) (by omega)
                rw [rd_L2_at _ _ hlt] at hx hc hl
                rw [Int.toNat_natCast] at hx
                have hx' := cell_below HC.out hx
                have HQ := Aside0.mk (finite_calls A0 c0 r[j] _ (Kd.C_below hc HC.out) (HBK2.out j hlt))
                clear hx hc hl
                by_cases hf : finL r[j] = true
                · rw [hf] at HQ
                  go_wp2_with fail
                  refine HQ.out.mono ?_
                  rintro e w3 ⟨rfl, hb3⟩
                  have HC3 := Aside0.mk (below_step HC.out hb3)
                  clear hb3
                  go_wp2_with fail
                  go_roundg kq
                  case measure => omega
                  case rel => exact ⟨j + 1, by omega, by go_num, ⟨by rw [List.take_succ_eq_append_getElem hlt, List.all_append, HF.out]; simp [hf]⟩, HC3⟩
                · rw [Bool.not_eq_true] at hf
                  rw [hf] at HQ
                  go_wp2_with fail
                  refine HQ.out.mono ?_
                  rintro e w3 ⟨rfl, hb3⟩
                  have HC3 := Aside0.mk (below_step HC.out hb3)
                  clear hb3
                  go_wp2_with fail
                  go_ret
                  refine ⟨ret_i ?_, HC3.out⟩
                  have : r.all finL = false := by
                    rw [List.all_eq_false]
                    exact ⟨r[j], List.getElem_mem hlt, by simp [hf]⟩
                  rw [HR.out, HW.out, if_neg (by omega), this]; rfl
end Go.Proofs.YtiiolhnpnlmkjaaDoor.Tree
