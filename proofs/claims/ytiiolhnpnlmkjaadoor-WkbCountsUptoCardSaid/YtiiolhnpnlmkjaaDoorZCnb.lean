/- Texts of this claim laid one behind the other (TWrong; TFence; TIter; TRange; TTells; TWrap): what each proves stands at its own names; the last one is the claim's. No conditions but those told. -/
import Derived.Test.YtiiolhnpnlmkjaaDoorZCna
import Derived.RangeFuncNested
import Derived.RangeFuncBound
import Derived.RangeFuncCalls
import Derived.RangeFuncLeaves
import Derived.OwnWalkIn
import Derived.TacticsInMore
import Derived.LoopNIn
import Derived.LoopIn
import Derived.OrdersIn
import Derived.StillTailTactics
import Derived.RangeFuncFrom
import Derived.RangeFuncWrites
import Derived.Shelf.Abstract
namespace Go.Proofs.YtiiolhnpnlmkjaaDoor.Tree
open Go.RowKit Go.Proofs.YtiiolhnpnlmkjaaDoorW.PrintWords Go.Proofs.YtiiolhnpnlmkjaaDoorW.PrintLast Go.Proofs.YtiiolhnpnlmkjaaDoorW.PrintMore
/-- What is wrong with an item, of which so many stand up to it. -/
def wrongC (x : It) (total : Int) : Int :=
  if 256 < x.f1 then 151 else if listsB x.f0 && fitsB x.f0.f0 x.f2 then (if 65536 < total then 152 else if finL x.f0.f1 && x.f0.f2.all finL then 0 else 155) else 150
set_option maxRecDepth 100000 in
set_option maxHeartbeats 4000000 in
theorem wrong_calls (x : It) (total : Int) (ad : Addr) (w : World) (h : GAt w ad x.f0) (hs : x.f0.bulk ≤ 1073741824) :
    Calls Tryd.prog 71 #[.agg #[.pointer (some ad), .int .i64 x.f1, .int .i64 x.f2], .int .i64 total] w fun e w' => e = .returned (.int .i64 (wrongC x total)) ∧ Below w.heap.size w w' := by
  have HLs := Aside0.mk (fun W (hb : Below w.heap.size w W) => lists_calls x.f0 ad W (h.below hb) hs)
  have HFs := Aside0.mk (fun W => fits_calls x.f0.f0 x.f2 W)
  obtain ⟨A1, c1, A2, c2, A3, c3, e0, e1, e2, e3, l1, h1, l2, h2, l3, h3⟩ := h
  have H2 := Aside0.mk h2
  have bl := x.f0.bulk_eq
  have b1 : x.f0.f1.length ≤ 1073741824 := by omega
  have b2 : x.f0.f2.length ≤ 1073741824 := by omega
  have HFL := Aside0.mk (fun W (hb : Below w.heap.size w W) => finite_calls A1 c1 x.f0.f1 W (Kd.C_below h1 hb) b1)
  have HB := Aside0.mk (Below.refl w.heap.size w)
  have HBK := Aside0.mk (And.intro hs bl)
  have HM := Aside0.mk (upTo_le x.f0.f2)
  clear h1 h2 h3 bl hs
  obtain ⟨R, hR⟩ : ∃ R, R = wrongC x total := ⟨_, rfl⟩
  rw [← hR]
  have HR := Aside0.mk hR
  clear hR
  obtain ⟨lb, hlb⟩ : ∃ b, b = listsB x.f0 := ⟨_, rfl⟩
  obtain ⟨fb, hfb⟩ : ∃ b, b = fitsB x.f0.f0 x.f2 := ⟨_, rfl⟩
  obtain ⟨nb, hnb⟩ : ∃ b, b = finL x.f0.f1 := ⟨_, rfl⟩
  rw [← hlb] at HLs
  rw [← hfb] at HFs
  rw [← hnb] at HFL
  have HV := Aside0.mk (And.intro hlb (And.intro hfb hnb))
  clear hlb hfb hnb
  obtain ⟨⟨k, l, r, ps⟩, lv, of_⟩ := x
  dsimp only at *
  by_cases d1 : 256 < lv
  · go_enter Tryd.func71, Tryd.ntmps71
    go_wp2_with ((with_reducible refine gate_dst (N := 2) rfl ?_); refine box_event ?hg (N := 2) ?hd (cs := #[.pointer (some ad), .int .i64 lv, .int .i64 of_]) (t := 123) ?hr ?_; (case hd => rfl); (case hg => rfl); (case hr => first | (go_simp; done) | (go_simp; rfl)); intro gb_ hgb_ wb_ hbox_ hbb_; have GE := Aside0.mk (show w.heap.size ≤ gb_ from by rw [hgb_]; exact below_size (by repeat (first | (with_reducible first | exact HB.out | apply below_alloc | apply pw_below_drewN | apply below_drew1) | exact HB.out))); have n_ := Aside0.mk (below_step (by repeat (first | (with_reducible first | exact HB.out | apply below_alloc | apply pw_below_drewN | apply below_drew1) | exact HB.out)) hbb_); clear HB; have HB := n_; have BK := Aside0.mk hbox_; (have p0 : wb_.cell? ⟨gb_, 0, none⟩ = some (.pointer (some ad)) := (blk_cell BK.out 0).trans rfl; have p1 : wb_.cell? ⟨gb_, 1, none⟩ = some (.int .i64 lv) := (blk_cell BK.out 1).trans rfl; have p2 : wb_.cell? ⟨gb_, 2, none⟩ = some (.int .i64 of_) := (blk_cell BK.out 2).trans rfl; have z0_ := cell_below HB.out e0; have z1_ := cell_below HB.out e1; have z2_ := cell_below HB.out e2); clear n_ hbox_ hbb_ hgb_)
    go_ret
    refine ⟨ret_i ?_, HB.out⟩
    rw [HR.out, wrongC, if_pos d1]
  · cases lb with
    | false =>
      go_enter Tryd.func71, Tryd.ntmps71
      go_wp2_with ((with_reducible refine gate_dst (N := 2) rfl ?_); refine box_event ?hg (N := 2) ?hd (cs := #[.pointer (some ad), .int .i64 lv, .int .i64 of_]) (t := 123) ?hr ?_; (case hd => rfl); (case hg => rfl); (case hr => first | (go_simp; done) | (go_simp; rfl)); intro gb_ hgb_ wb_ hbox_ hbb_; have GE := Aside0.mk (show w.heap.size ≤ gb_ from by rw [hgb_]; exact below_size (by repeat (first | (with_reducible first | exact HB.out | apply below_alloc | apply pw_below_drewN | apply below_drew1) | exact HB.out))); have n_ := Aside0.mk (below_step (by repeat (first | (with_reducible first | exact HB.out | apply below_alloc | apply pw_below_drewN | apply below_drew1) | exact HB.out)) hbb_); clear HB; have HB := n_; have BK := Aside0.mk hbox_; (have p0 : wb_.cell? ⟨gb_, 0, none⟩ = some (.pointer (some ad)) := (blk_cell BK.out 0).trans rfl; have p1 : wb_.cell? ⟨gb_, 1, none⟩ = some (.int .i64 lv) := (blk_cell BK.out 1).trans rfl; have p2 : wb_.cell? ⟨gb_, 2, none⟩ = some (.int .i64 of_) := (blk_cell BK.out 2).trans rfl; have z0_ := cell_below HB.out e0; have z1_ := cell_below HB.out e1; have z2_ := cell_below HB.out e2); clear n_ hbox_ hbb_ hgb_)
      go_quiet ((first
        | (refine (HLs.out _ (by repeat (first | (with_reducible first | exact HB.out | apply below_alloc | apply pw_below_drewN | apply below_drew1) | exact HB.out))).mono ?_; rintro e w' ⟨rfl, rfl⟩; exact ⟨rfl, _, rfl⟩)
        | (refine (HFs.out _).mono ?_; rintro e w' ⟨rfl, rfl⟩; exact ⟨rfl, _, rfl⟩)))
      go_wp2_with fail
      go_ret
      refine ⟨ret_i ?_, (by repeat (first | (with_reducible first | exact HB.out | apply below_alloc | apply pw_below_drewN | apply below_drew1) | exact HB.out))⟩
      rw [HR.out, wrongC, if_neg (show ¬ 256 < lv by omega)]
      dsimp only
      rw [← HV.out.1]; rfl
    | true =>
      cases fb with
      | false =>
        go_enter Tryd.func71, Tryd.ntmps71
        go_wp2_with ((with_reducible refine gate_dst (N := 2) rfl ?_); refine box_event ?hg (N := 2) ?hd (cs := #[.pointer (some ad), .int .i64 lv, .int .i64 of_]) (t := 123) ?hr ?_; (case hd => rfl); (case hg => rfl); (case hr => first | (go_simp; done) | (go_simp; rfl)); intro gb_ hgb_ wb_ hbox_ hbb_; have GE := Aside0.mk (show w.heap.size ≤ gb_ from by rw [hgb_]; exact below_size (by repeat (first | (with_reducible first | exact HB.out | apply below_alloc | apply pw_below_drewN | apply below_drew1) | exact HB.out))); have n_ := Aside0.mk (below_step (by repeat (first | (with_reducible first | exact HB.out | apply below_alloc | apply pw_below_drewN | apply below_drew1) | exact HB.out)) hbb_); clear HB; have HB := n_; have BK := Aside0.mk hbox_; (have p0 : wb_.cell? ⟨gb_, 0, none⟩ = some (.pointer (some ad)) := (blk_cell BK.out 0).trans rfl; have p1 : wb_.cell? ⟨gb_, 1, none⟩ = some (.int .i64 lv) := (blk_cell BK.out 1).trans rfl; have p2 : wb_.cell? ⟨gb_, 2, none⟩ = some (.int .i64 of_) := (blk_cell BK.out 2).trans rfl; have z0_ := cell_below HB.out e0; have z1_ := cell_below HB.out e1; have z2_ := cell_below HB.out e2); clear n_ hbox_ hbb_ hgb_)
        go_quiet ((first
          | (refine (HLs.out _ (by repeat (first | (with_reducible first | exact HB.out | apply below_alloc | apply pw_below_drewN | apply below_drew1) | exact HB.out))).mono ?_; rintro e w' ⟨rfl, rfl⟩; exact ⟨rfl, _, rfl⟩)
          | (refine (HFs.out _).mono ?_; rintro e w' ⟨rfl, rfl⟩; exact ⟨rfl, _, rfl⟩)))
        go_wp2_with fail
        go_ret
        refine ⟨ret_i ?_, (by repeat (first | (with_reducible first | exact HB.out | apply below_alloc | apply pw_below_drewN | apply below_drew1) | exact HB.out))⟩
        rw [HR.out, wrongC, if_neg (show ¬ 256 < lv by omega)]
        dsimp only
        rw [← HV.out.1, ← HV.out.2.1]; rfl
      | true =>
        have HW := Aside0.mk (show wrongC ⟨⟨k, l, r, ps⟩, lv, of_⟩ total = if 65536 < total then 152 else if nb && r.all finL then 0 else 155 by
          rw [wrongC, if_neg (show ¬ 256 < lv by omega)]
          dsimp only
          rw [← HV.out.1, ← HV.out.2.1, ← HV.out.2.2]; rfl)
        by_cases d2 : 65536 < total
        · go_enter Tryd.func71, Tryd.ntmps71
          go_wp2_with ((with_reducible refine gate_dst (N := 2) rfl ?_); refine box_event ?hg (N := 2) ?hd (cs := #[.pointer (some ad), .int .i64 lv, .int .i64 of_]) (t := 123) ?hr ?_; (case hd => rfl); (case hg => rfl); (case hr => first | (go_simp; done) | (go_simp; rfl)); intro gb_ hgb_ wb_ hbox_ hbb_; have GE := Aside0.mk (show w.heap.size ≤ gb_ from by rw [hgb_]; exact below_size (by repeat (first | (with_reducible first | exact HB.out | apply below_alloc | apply pw_below_drewN | apply below_drew1) | exact HB.out))); have n_ := Aside0.mk (below_step (by repeat (first | (with_reducible first | exact HB.out | apply below_alloc | apply pw_below_drewN | apply below_drew1) | exact HB.out)) hbb_); clear HB; have HB := n_; have BK := Aside0.mk hbox_; (have p0 : wb_.cell? ⟨gb_, 0, none⟩ = some (.pointer (some ad)) := (blk_cell BK.out 0).trans rfl; have p1 : wb_.cell? ⟨gb_, 1, none⟩ = some (.int .i64 lv) := (blk_cell BK.out 1).trans rfl; have p2 : wb_.cell? ⟨gb_, 2, none⟩ = some (.int .i64 of_) := (blk_cell BK.out 2).trans rfl; have z0_ := cell_below HB.out e0; have z1_ := cell_below HB.out e1; have z2_ := cell_below HB.out e2); clear n_ hbox_ hbb_ hgb_)
          go_quiet ((first
            | (refine (HLs.out _ (by repeat (first | (with_reducible first | exact HB.out | apply below_alloc | apply pw_below_drewN | apply below_drew1) | exact HB.out))).mono ?_; rintro e w' ⟨rfl, rfl⟩; exact ⟨rfl, _, rfl⟩)
            | (refine (HFs.out _).mono ?_; rintro e w' ⟨rfl, rfl⟩; exact ⟨rfl, _, rfl⟩)))
          go_wp2_with fail
          go_ret
          refine ⟨ret_i ?_, (by repeat (first | (with_reducible first | exact HB.out | apply below_alloc | apply pw_below_drewN | apply below_drew1) | exact HB.out))⟩
          rw [HR.out, HW.out, if_pos d2]
        · cases nb with
          | false =>
            go_enter Tryd.func71, Tryd.ntmps71
            go_wp2_with ((with_reducible refine gate_dst (N := 2) rfl ?_); refine box_event ?hg (N := 2) ?hd (cs := #[.pointer (some ad), .int .i64 lv, .int .i64 of_]) (t := 123) ?hr ?_; (case hd => rfl); (case hg => rfl); (case hr => first | (go_simp; done) | (go_simp; rfl)); intro gb_ hgb_ wb_ hbox_ hbb_; have GE := Aside0.mk (show w.heap.size ≤ gb_ from by rw [hgb_]; exact below_size (by repeat (first | (with_reducible first | exact HB.out | apply below_alloc | apply pw_below_drewN | apply below_drew1) | exact HB.out))); have n_ := Aside0.mk (below_step (by repeat (first | (with_reducible first | exact HB.out | apply below_alloc | apply pw_below_drewN | apply below_drew1) | exact HB.out)) hbb_); clear HB; have HB := n_; have BK := Aside0.mk hbox_; (have p0 : wb_.cell? ⟨gb_, 0, none⟩ = some (.pointer (some ad)) := (blk_cell BK.out 0).trans rfl; have p1 : wb_.cell? ⟨gb_, 1, none⟩ = some (.int .i64 lv) := (blk_cell BK.out 1).trans rfl; have p2 : wb_.cell? ⟨gb_, 2, none⟩ = some (.int .i64 of_) := (blk_cell BK.out 2).trans rfl; have z0_ := cell_below HB.out e0; have z1_ := cell_below HB.out e1; have z2_ := cell_below HB.out e2); clear n_ hbox_ hbb_ hgb_)
            go_quiet ((first
              | (refine (HLs.out _ (by repeat (first | (with_reducible first | exact HB.out | apply below_alloc | apply pw_below_drewN | apply below_drew1) | exact HB.out))).mono ?_; rintro e w' ⟨rfl, rfl⟩; exact ⟨rfl, _, rfl⟩)
              | (refine (HFs.out _).mono ?_; rintro e w' ⟨rfl, rfl⟩; exact ⟨rfl, _, rfl⟩)))
            go_wp2_with fail
            refine (HFL.out _ (by repeat (first | (with_reducible first | exact HB.out | apply below_alloc | apply pw_below_drewN | apply below_drew1) | exact HB.out))).mono ?_
            rintro e w2 ⟨rfl, hb2⟩
            have HB2 := Aside0.mk (below_step (show Below w.heap.size w _ from (by repeat (first | (with_reducible first | exact HB.out | apply below_alloc | apply pw_below_drewN | apply below_drew1) | exact HB.out))) hb2)
            clear hb2
            go_wp2_with fail
            go_ret
            refine ⟨ret_i ?_, HB2.out⟩
            rw [HR.out, HW.out, if_neg (by omega)]; rfl
          | true =>
            go_enter Tryd.func71, Tryd.ntmps71
            go_wp2_with ((with_reducible refine gate_dst (N := 2) rfl ?_); refine box_event ?hg (N := 2) ?hd (cs := #[.pointer (some ad), .int .i64 lv, .int .i64 of_]) (t := 123) ?hr ?_; (case hd => rfl); (case hg => rfl); (case hr => first | (go_simp; done) | (go_simp; rfl)); intro gb_ hgb_ wb_ hbox_ hbb_; have GE := Aside0.mk (show w.heap.size ≤ gb_ from by rw [hgb_]; exact below_size (by repeat (first | (with_reducible first | exact HB.out | apply below_alloc | apply pw_below_drewN | apply below_drew1) | exact HB.out))); have n_ := Aside0.mk (below_step (by repeat (first | (with_reducible first | exact HB.out | apply below_alloc | apply pw_below_drewN | apply below_drew1) | exact HB.out)) hbb_); clear HB; have HB := n_; have BK := Aside0.mk hbox_; (have p0 : wb_.cell? ⟨gb_, 0, none⟩ = some (.pointer (some ad)) := (blk_cell BK.out 0).trans rfl; have p1 : wb_.cell? ⟨gb_, 1, none⟩ = some (.int .i64 lv) := (blk_cell BK.out 1).trans rfl; have p2 : wb_.cell? ⟨gb_, 2, none⟩ = some (.int .i64 of_) := (blk_cell BK.out 2).trans rfl; have z0_ := cell_below HB.out e0; have z1_ := cell_below HB.out e1; have z2_ := cell_below HB.out e2); clear n_ hbox_ hbb_ hgb_)
            go_quiet ((first
              | (refine (HLs.out _ (by repeat (first | (with_reducible first | exact HB.out | apply below_alloc | apply pw_below_drewN | apply below_drew1) | exact HB.out))).mono ?_; rintro e w' ⟨rfl, rfl⟩; exact ⟨rfl, _, rfl⟩)
              | (refine (HFs.out _).mono ?_; rintro e w' ⟨rfl, rfl⟩; exact ⟨rfl, _, rfl⟩)))
            go_wp2_with fail
            refine (HFL.out _ (by repeat (first | (with_reducible first | exact HB.out | apply below_alloc | apply pw_below_drewN | apply below_drew1) | exact HB.out))).mono ?_
            rintro e w2 ⟨rfl, hb2⟩
            have HB2 := Aside0.mk (below_step (show Below w.heap.size w _ from (by repeat (first | (with_reducible first | exact HB.out | apply below_alloc | apply pw_below_drewN | apply below_drew1) | exact HB.out))) hb2)
            have q2 := cell_below HB2.out e2
            have s0 := cell_below hb2 (a := ⟨gb_, 0, none⟩) (v := .pointer (some ad)) (by simpa using p0)
            clear hb2
            go_wp2_with fail
            have b2' : r.length < 9223372036854775807 := by omega
            have HBK2 := Aside0.mk (show ∀ (j : Nat) (h : j < r.length), (r[j]).length ≤ 1073741824 by
              intro j h
              have := HM.out (j + 1)
              rw [upTo_succ _ _ h] at this
              have := HBK.out
              omega)
            go_loopg [44] r.length (fun kq i wr => ∃ j : Nat, j + kq = r.length ∧ i = .int .i64 (j : Int) ∧ Aside0 ((r.take j).all finL = true) ∧ Aside0 (Below w.heap.size w wr))
            case atStart => exact ⟨0, by omega, rfl, ⟨rfl⟩, HB2⟩
            case round =>
              obtain ⟨j, hj, rfl, HF, HC⟩ := hrel
              cases gk with
              | zero =>
                have hlt : ¬ ((j : Int) < (r.length : Int)) := by omega
                obtain rfl : j = r.length := by omega
                go_wp2_with fail
                go_ret
                refine ⟨ret_i ?_, HC.out⟩
                have hF := HF.out
                rw [List.take_length] at hF
                rw [HR.out, HW.out, if_neg (by omega), hF]; rfl
              | succ kq =>
                have hlt : j < r.length := by omega
                obtain ⟨a2, A0, c0, rfl, hx, hl, hc⟩ := at_L2 H2.out j (by omega) (by omega)
                rw [rd_L2_at _ _ hlt] at hx hc hl
                rw [Int.toNat_natCast] at hx
                have hx' := cell_below HC.out hx
                have HQ := Aside0.mk (finite_calls A0 c0 r[j] _ (Kd.C_below hc HC.out) (HBK2.out j hlt))
                clear hx hc hl
                by_cases hf : finL r[j] = true
                · rw [hf] at HQ
                  go_wp2_with fail
                  refine HQ.out.mono ?_
                  rintro e w3 ⟨rfl, hb3⟩
                  have HC3 := Aside0.mk (below_step HC.out hb3)
                  clear hb3
                  go_wp2_with fail
                  go_roundg kq
                  case measure => omega
                  case rel => exact ⟨j + 1, by omega, by go_num, ⟨by rw [List.take_succ_eq_append_getElem hlt, List.all_append, HF.out]; simp [hf]⟩, HC3⟩
                · rw [Bool.not_eq_true] at hf
                  rw [hf] at HQ
                  go_wp2_with fail
                  refine HQ.out.mono ?_
                  rintro e w3 ⟨rfl, hb3⟩
                  have HC3 := Aside0.mk (below_step HC.out hb3)
                  clear hb3
                  go_wp2_with fail
                  go_ret
                  refine ⟨ret_i ?_, HC3.out⟩
                  have : r.all finL = false := by
                    rw [List.all_eq_false]
                    exact ⟨r[j], List.getElem_mem hlt, by simp [hf]⟩
                  rw [HR.out, HW.out, if_neg (by omega), this]; rfl
end Go.Proofs.YtiiolhnpnlmkjaaDoor.Tree
namespace Go.Proofs.YtiiolhnpnlmkjaaDoor.Tree
open Go Go.RowKit

/-- A fence that asks nothing, inside a round or outside. -/
inductive Free : Fence → Prop where
  | plain : Free Fence.wide
  | round (l : Nat) : Free (Fence.wide.inRound l)
section
variable {F : Fence} {n : Nat} {P : Program}
theorem Free.fn (h : Free F) (f : FuncId) : F.fn f := by cases h <;> exact trivial
theorem Free.depth (h : Free F) : F.depth = none := by cases h <;> rfl
theorem Free.low (h : Free F) (p : Prop) : F.depth.isSome = true → p := fun e => by rw [h.depth] at e; cases e
theorem Free.calls (h : Free F) {f : FuncId} {args : Array Value} {w : World} {R : Ending → World → Prop} (hc : Calls P f args w R) : CallsIn F n P f args w R := by
  cases h with
  | plain => exact callsIn_wide.2 hc
  | round l => exact CallsIn.inRound l (callsIn_wide.2 hc)
theorem Free.rows (h : Free F) {row : String} {args : Array Value} {w : World} {R : Value → World → Prop} (hc : Rows P row args w R) : RowsIn F n P row args w R := by
  intro c cs _
  obtain ⟨v, w', r, s⟩ := hc c cs
  refine ⟨v, w', r, ?_⟩
  cases h with
  | plain => exact stepsIn_wide.2 s
  | round l => exact stepsIn_wide.2 s
/-- No operation is a defer statement. -/
def noDefer (o : Oper) : Bool := match o.op with
  | .defer _ => false
  | _ => true
theorem noDefer_ne {o : Oper} (h : noDefer o = true) (c : Call) : o.op ≠ .defer c := fun e => by unfold noDefer at h; rw [e] at h; cases h
theorem Free.oper (h : Free F) {o : Oper} (hd : noDefer o = true) {a : Act} {w : World} {K K' : Act → World → Prop} {Q : Exit → Act → World → Prop} (hK : ∀ a w, K a w → K' a w) (hw : o.wp P a w K Q) : o.wpIn F n P a w K' Q := by
  refine ⟨fun f _ => h.fn f, ?_⟩
  rw [Oper.semAt_eq _ _ _ (noDefer_ne hd)]
  unfold Oper.wp at hw
  generalize (execOp a.eval o).run P w = r at *
  cases r with
  | ok x w' =>
    cases x <;> simp only [Oper.upon] at hw <;> simp only [Oper.uponIn]
    case value u => exact hK _ _ hw
    case skip => exact hK _ _ hw
    case defer d => exact hK _ _ hw
    case enter f args => exact ⟨h.low _, (h.calls (n := n - 1) hw).mono (fun e w'' he => by cases e <;> first | exact hK _ _ he | exact he)⟩
    case row row args => exact ⟨h.low _, (h.rows (n := n - 1) hw).mono (fun v w'' he => hK _ _ he)⟩
  | halt x w' => cases x <;> simp only [Oper.upon] at hw <;> simp only [Oper.uponIn] <;> exact hw
theorem Free.list (h : Free F) {ops : Array Oper} {Q : Exit → Act → World → Prop} (hQ : ¬ LetsOut Q) : ∀ (l : List Oper) (a : Act) (w : World), l.all noDefer = true → wpList P ops Q l a w → wpListIn F n P ops Q l a w
  | [], _, _, _, hw => hw
  | o :: l, a, w, hd, hw => by
    simp only [List.all_cons, Bool.and_eq_true] at hd
    unfold wpList at hw
    unfold wpListIn
    split
    · rename_i hwn
      rw [if_pos hwn] at hw
      rcases hw with hw | hw
      · exact h.oper hd.1 (fun a w => Free.list h hQ l a w hd.2) hw
      · exact absurd hw.2 hQ
    · rename_i hwn
      rw [if_neg hwn] at hw
      exact ⟨fun f _ => h.fn f, Free.list h hQ l _ _ hd.2 hw⟩
theorem Free.op (h : Free F) {ops : Array Oper} {Q : Exit → Act → World → Prop} (hQ : ¬ LetsOut Q) (hd : ∀ (j : Nat) o, ops[j]? = some o → noDefer o = true) {i : Nat} {a : Act} {w : World} {K K' : Act → World → Prop} (hK : ∀ a w, K a w → K' a w) (hw : wpOp P ops Q i K a w) : wpOpIn F n P ops Q i K' a w := by
  unfold wpOp at hw
  unfold wpOpIn
  split
  · rename_i e; rw [e] at hw; exact hK _ _ hw
  · rename_i o e
    rw [e] at hw
    simp only at hw
    split
    · rename_i hwn
      rw [if_pos hwn] at hw
      rcases hw with hw | hw
      · exact h.oper (hd i o e) hK hw
      · exact absurd hw.2 hQ
    · rename_i hwn
      rw [if_neg hwn] at hw
      exact ⟨fun f _ => h.fn f, hK _ _ hw⟩
theorem Free.any (h : Free F) {ops : Array Oper} {md : Region.Mode} {Q : Exit → Act → World → Prop} (hQ : ¬ LetsOut Q) (hd : ∀ (j : Nat) o, ops[j]? = some o → noDefer o = true) : ∀ (fuel : Nat) (listed : Array Bool) (a : Act) (w : World), wpAny P md ops Q fuel listed a w → wpAnyIn F n P md ops Q fuel listed a w
  | 0, _, _, _, hw => hw
  | fuel + 1, listed, a, w, hw => ⟨hw.1, fun i hi => h.op hQ hd (fun a w => Free.any h hQ hd fuel _ a w) (hw.2 i hi)⟩
/-- A region that goes in the order of the text. -/
theorem Free.region (h : Free F) {id : Nat} {l : List Oper} {Q : Exit → Act → World → Prop} {a : Act} {w : World} (hQ : ¬ LetsOut Q) (hd : l.all noDefer = true) (hw : wpList P l.toArray Q l a w) : (Code.region id l.toArray false).wpIn F n P Q a w :=
  wpIn_region_lit (h.list hQ l a w hd hw)
/-- A region that draws its order. -/
theorem Free.draws (h : Free F) {id : Nat} {l : List Oper} {Q : Exit → Act → World → Prop} {a : Act} {w : World} (hm : P.follows .mixedOrders = true) (hQ : ¬ LetsOut Q) (hd : l.all noDefer = true)
    (hw : wpAny P .any l.toArray Q l.toArray.size (Array.replicate l.toArray.size false) a w.drew) : (Code.region id l.toArray true).wpIn F n P Q a w :=
  wpIn_region_any hm (h.any hQ (fun j o e => List.all_eq_true.1 hd o (by simpa using Array.mem_of_getElem? e)) _ _ _ _ hw)
end
section
variable {P : Program} {ops : Array Oper} {md : Region.Mode}
/-- What is read in any order, then a tail in one order. -/
theorem any_still_tail {Q : Exit → Act → World → Prop} {a : Act} {w : World} {l : List Oper} (n : Nat) (hB : Region.lexTailB .any l.toArray n = true)
    (h : wpStill P l.toArray w (fun a' => wpList P l.toArray Q (l.drop n) a' w) (l.take n) a) : wpAny P .any l.toArray Q l.toArray.size (Array.replicate l.toArray.size false) a w := by
  simp only [Region.lexTailB, Bool.and_eq_true, decide_eq_true_eq] at hB
  obtain ⟨⟨⟨⟨hsel, hn⟩, hs⟩, hc⟩, hlex⟩ := hB
  have hn' : n < l.length := by simpa using hn
  have htl : (l.take n).length = n := by simp; omega
  have hdl : (l.drop n).length = l.toArray.size - n := by simp
  have inv0 : HeadInv .any l.toArray n (Array.replicate l.toArray.size false) :=
    ⟨by simp, fun j oj _ hl => (by rw [getD_replicate_false] at hl; cases hl), fun t _ ht => getD_in (by simpa using ht) (getD_replicate_false _ _)⟩
  have H := wpAnyL_lex (md := .any) (g := l.toArray.size - n) hsel hs hc hn (l.take n) 0 _ a (fun j hj => by
    have hj' : j < n := by rw [htl] at hj; exact hj
    simp [hj']) (by simpa using htl) inv0 (by rw [htl]; exact hlex) h
  have := wpAny_of_head (Q' := Q) (g := l.toArray.size - n) (fun listed a' hL => by
    have := wpAny_of_seq (md := .any) (Q' := Q) (l.drop n) n listed a' w (fun j => by simp [List.getElem?_drop]) (by rw [hdl]; exact hL.1) hL.2
    rwa [hdl] at this) _ _ _ H
  rw [htl, show n + (l.toArray.size - n) = l.toArray.size by omega] at this
  exact this
end
end Go.Proofs.YtiiolhnpnlmkjaaDoor.Tree
namespace Go.Proofs.YtiiolhnpnlmkjaaDoor.Tree
open Go.RowKit Go.Proofs.YtiiolhnpnlmkjaaDoorW.PrintWords Go.Proofs.YtiiolhnpnlmkjaaDoorW.PrintLast Go.Proofs.YtiiolhnpnlmkjaaDoorW.PrintMore
attribute [local go_sem] Oper.semAt_some
/-- A geometry where it stands. -/
structure Spot where
  ad : Addr
  lvl : Int
  of_ : Int
  g : Ge
def Spot.enc (x : Spot) : Value := .agg #[.pointer (some x.ad), .int .i64 x.lvl, .int .i64 x.of_]
def Spot.it (x : Spot) : It := ⟨x.g, x.lvl, x.of_⟩
/-- What a round that goes on keeps: what lay below, and the iterator's own boxes. -/
structure KpS (n₀ : Nat) (W W' : World) : Prop where
  below : Below n₀ W W'
  box : ∀ (k : Nat) (cs : Array Value), W.heap[k]? = some (.cells cs 123 (0, 0)) → W'.heap[k]? = some (.cells cs 123 (0, 0))
theorem KpS.refl (n₀ : Nat) (W : World) : KpS n₀ W W := ⟨Below.refl _ _, fun _ _ h => h⟩
theorem KpS.trans {n₀ : Nat} {A B C : World} (h : KpS n₀ A B) (k : KpS n₀ B C) : KpS n₀ A C := ⟨h.below.trans k.below, fun i cs hi => k.box i cs (h.box i cs hi)⟩
theorem KpS.of_below {n₀ : Nat} {W W' : World} (h : Below W.heap.size W W') (hn : n₀ ≤ W.heap.size) : KpS n₀ W W' := ⟨h.mono hn, fun k cs hk => (h.block k (blk_lt hk)).trans hk⟩
theorem KpS.alloc {n₀ : Nat} {A W : World} (h : KpS n₀ A W) (hn : n₀ ≤ W.heap.size) (o : Obj) : KpS n₀ A (W.alloc o) := h.trans (KpS.of_below (below_alloc (Below.refl _ _) o) hn)
theorem KpS.drew {n₀ : Nat} {A W : World} (h : KpS n₀ A W) : KpS n₀ A W.drew := ⟨h.below.drew, h.box⟩
/-- A store into a block of another type. -/
theorem KpS.set {n₀ : Nat} {A W : World} (h : KpS n₀ A W) {g t j : Nat} {cs : Array Value} (hb : W.heap[g]? = some (.cells cs t (0, 0))) (ht : t ≠ 123) (hn : n₀ ≤ g) (v : Value) : KpS n₀ A (W.setCell ⟨g, j, none⟩ v) :=
  ⟨h.below.setCell hn v, fun k cs' hk => by
    have h1 := h.box k cs' hk
    by_cases e : k = g
    · subst e; rw [hb] at h1; injection h1 with h1; injection h1 with _ h1; exact absurd h1 ht
    · exact (Below.heap_setCell W ⟨g, j, none⟩ v k e).trans h1⟩
/-- Another row has grown. -/
theorem KpS.grown {n₀ : Nat} {A W W' : World} (h : KpS n₀ A W) {row : Option Nat} (hg : W.grownBy W' row) (hn : n₀ ≤ W.heap.size) (hr : ∀ k, row = some k → n₀ ≤ k ∧ ∃ cs t, W.heap[k]? = some (.cells cs t (0, 0)) ∧ t ≠ 123) : KpS n₀ A W' :=
  ⟨h.below.grown hg (by exact hn) (fun k e => (hr k e).1), fun k cs' hk => by
    have h1 := h.box k cs' hk
    refine (hg.block k (blk_lt h1) (fun e => ?_)).trans h1
    obtain ⟨_, cs, t, h2, ht⟩ := hr k e.symm
    rw [h1] at h2; injection h2 with h2; injection h2 with _ h2; exact ht h2.symm⟩
theorem AbidesFrom.alloc_ {β : Type} {B : Nat} {J : β → World → Prop} (hJ : AbidesFrom B J) {s : β} {W : World} (h : J s W) (o : Obj) : J s (W.alloc o) :=
  hJ s W _ none h (World.grownBy_alloc W o none) (fun r e => by cases e)
theorem AbidesFrom.drew_ {β : Type} {B : Nat} {J : β → World → Prop} (hJ : AbidesFrom B J) {s : β} {W : World} (h : J s W) : J s W.drew :=
  hJ s W _ none h (grown_of_below (below_drew (Below.refl _ _)) none) (fun r e => by cases e)
/-- The first k lists, one behind the other. -/
def firsts {α : Type} (Ls : Nat → List α) (k : Nat) : List α := ((List.range k).map Ls).flatten
theorem firsts_succ {α : Type} (Ls : Nat → List α) (k : Nat) : firsts Ls (k + 1) = firsts Ls k ++ Ls k := by unfold firsts; rw [List.range_succ]; simp
theorem firsts_pre {α : Type} (Ls : Nat → List α) {k n : Nat} (h : k ≤ n) : ∃ r, firsts Ls n = firsts Ls k ++ r := by
  induction n with
  | zero => obtain rfl : k = 0 := by omega
            exact ⟨[], by simp⟩
  | succ n ih =>
    by_cases e : k = n + 1
    · subst e; exact ⟨[], by simp⟩
    · obtain ⟨r, hr⟩ := ih (by omega)
      exact ⟨r ++ Ls n, by rw [firsts_succ, hr, List.append_assoc]⟩
theorem firsts_mem {α : Type} (Ls : Nat → List α) {k n : Nat} (h : k < n) {x : α} (hx : x ∈ Ls k) : x ∈ firsts Ls n := by
  obtain ⟨r, hr⟩ := firsts_pre Ls (show k + 1 ≤ n from h)
  rw [hr, firsts_succ]; simp [hx]
theorem firsts_map (Ls : Nat → List Spot) (ps : List Ge) (lvl k : Int) (n : Nat) (hn : n = ps.length) (h : ∀ i (hi : i < ps.length), (Ls i).map Spot.it = nodes ps[i] lvl k) : (firsts Ls n).map Spot.it = nodesL ps lvl k := by
  subst hn
  rw [nodesL_flat]
  unfold firsts
  rw [List.map_flatten, List.map_map]
  congr 1
  apply List.ext_getElem
  · simp
  · intro i h1 h2
    simp only [List.getElem_map, List.getElem_range, Function.comp]
    exact h i (by simpa using h2)
/-- The walk over a tree, whatever the rounds do. -/
def WalkOK (n₀ : Nat) (w0 : World) (s : Spot) (L : List Spot) : Prop :=
  ∀ (M : List Spot), (∀ x ∈ L, x ∈ M) → ∀ (l N B : Nat) (J Jx : List Spot → World → Prop), AbidesFrom B J →
    (∀ m pre x W, x ∈ M → J pre W → pre.length < N → Below n₀ w0 W → YieldAt Fence.wide m Tryd.prog l #[x.enc] W fun e W' => (e = .returned (.bool true) ∧ J (pre ++ [x]) W' ∧ KpS n₀ W W') ∨ (e = .returned (.bool false) ∧ Jx (pre ++ [x]) W')) →
    ∀ (n : Nat) (pre : List Spot) (W : World), Below n₀ w0 W → J pre W → pre.length + L.length ≤ N →
      CallsIn Fence.wide n Tryd.prog 82 #[s.enc, .func (.yield l) #[] #[]] W fun e W' => (e = .returned (.bool true) ∧ J (pre ++ L) W' ∧ KpS n₀ W W') ∨ (e = .returned (.bool false) ∧ ∃ q, q <+: L ∧ Jx (pre ++ q) W')
set_option maxRecDepth 100000 in
set_option maxHeartbeats 4000000 in
theorem walk_ok (n₀ : Nat) (w0 : World) (hn₀ : w0.heap.size = n₀) (g : Ge) : ∀ (ad : Addr) (lvl of_ : Int), GAt w0 ad g → 0 ≤ lvl → lvl + g.bulk ≤ 4611686018427387904 → g.bulk ≤ 1073741824 →
    ∃ L : List Spot, L.map Spot.it = nodes g lvl of_ ∧ (∀ x ∈ L, GAt w0 x.ad x.g) ∧ WalkOK n₀ w0 ⟨ad, lvl, of_, g⟩ L := by
  induction g using Ge.ind with
  | h g ih =>
    intro ad lvl of_ hA hl0 hl1 hbk
    have hA' := hA
    obtain ⟨A1, c1, A2, c2, A3, c3, e0, e1, e2, e3, l1, h1, l2, h2, l3, h3⟩ := hA'
    have hbq := g.bulk_eq
    have hbl := bulks_len g.f3
    have hch : ∀ i : Nat, ∃ Li : List Spot, ∀ hi : i < g.f3.length, ∃ a3, A3 = some a3 ∧ Li.map Spot.it = nodes g.f3[i] (lvl + 1) g.f0 ∧ (∀ x ∈ Li, GAt w0 x.ad x.g) ∧ WalkOK n₀ w0 ⟨a3.add (i * 4), lvl + 1, g.f0, g.f3[i]⟩ Li := by
      intro i
      by_cases hi : i < g.f3.length
      · obtain ⟨a3, ea, hG⟩ := GAt.part h3 (i : Int) (by omega) (by omega)
        rw [rd_Ge_at _ _ hi, Int.toNat_natCast] at hG
        have hm := bulks_mem (List.getElem_mem hi)
        obtain ⟨Li, q1, q2, q3⟩ := ih g.f3[i] (List.getElem_mem hi) (a3.add (i * 4)) (lvl + 1) g.f0 hG (by omega) (by omega) (by omega)
        exact ⟨Li, fun _ => ⟨a3, ea, q1, q2, q3⟩⟩
      · exact ⟨[], fun h => absurd h hi⟩
    obtain ⟨Ls, hLs⟩ : ∃ Ls : Nat → List Spot, ∀ i, ∀ hi : i < g.f3.length, ∃ a3, A3 = some a3 ∧ (Ls i).map Spot.it = nodes g.f3[i] (lvl + 1) g.f0 ∧ (∀ x ∈ Ls i, GAt w0 x.ad x.g) ∧ WalkOK n₀ w0 ⟨a3.add (i * 4), lvl + 1, g.f0, g.f3[i]⟩ (Ls i) :=
      ⟨fun i => (hch i).choose, fun i => (hch i).choose_spec⟩
    clear hch ih
    refine ⟨⟨ad, lvl, of_, g⟩ :: firsts Ls g.f3.length, ?_, ?_, ?_⟩
    · rw [List.map_cons, nodes_eq, firsts_map Ls g.f3 (lvl + 1) g.f0 _ rfl (fun i hi => by obtain ⟨_, _, q, _⟩ := hLs i hi; exact q)]
      rfl
    · intro x hx
      rcases List.mem_cons.1 hx with rfl | hx
      · exact hA
      · unfold firsts at hx
        obtain ⟨y, hy, hxy⟩ := List.mem_flatten.1 hx
        obtain ⟨i, hi, rfl⟩ := List.mem_map.1 hy
        obtain ⟨_, _, _, q, _⟩ := hLs i (List.mem_range.1 hi)
        exact q x hxy
    · intro M hM l N B J Jx hJ hY n pre W hW hJ0 hN
      have hmx : Tryd.prog.follows .mixedOrders = true := by kernel_rfl
      have hlen : (firsts Ls g.f3.length).length + 1 + pre.length ≤ N := by simp only [List.length_cons] at hN; omega
      have hlt : n₀ ≤ W.heap.size := by have := hW.size; omega
      obtain ⟨W1, hW1⟩ : ∃ W1, W1 = W.alloc (.cells #[.pointer (some ad), .int .i64 lvl, .int .i64 of_] 123) := ⟨_, rfl⟩
      have hK1 : KpS n₀ W W1 := by rw [hW1]; exact (KpS.refl _ _).alloc hlt _
      have hbx : W1.heap[W.heap.size]? = some (.cells #[.pointer (some ad), .int .i64 lvl, .int .i64 of_] 123 (0, 0)) := by rw [hW1]; exact World.alloc_heap_new W _
      have hj1 : J pre W1 := by rw [hW1]; exact AbidesFrom.alloc_ hJ hJ0 _
      obtain ⟨fn, tmps, assign, body, hy, hR⟩ := hY (n - 1) pre ⟨ad, lvl, of_, g⟩ W1 (hM _ List.mem_cons_self) hj1 (by omega) (hW.trans hK1.below)
      dsimp only [Spot.enc] at hy
      rw [hW1] at hy
      refine callsIn_of_wp Tryd.func82 rfl trivial ?_ rfl
      simp only [Tryd.ntmps82, List.size_toArray, List.length_cons, List.length_nil, Nat.reduceAdd, Nat.reduceSub, Array.replicate_succ, Array.replicate_zero, List.push_toArray, List.append_toArray, List.nil_append, List.cons_append]
      dsimp only [Spot.enc]
      gi_wp2_with fail
      refine ⟨fun h => (by cases h), ?_⟩
      rw [← hW1]
      refine hR.mono ?_
      clear hR hy
      rintro e W2 (⟨rfl, hJ2, hK2⟩ | ⟨rfl, hx2⟩)
      · have hb2 := hK2.box _ _ hbx
        have s0 : W2.cell? ⟨W.heap.size, 0, none⟩ = some (.pointer (some ad)) := (blk_cell hb2 0).trans rfl
        have s1 : W2.cell? ⟨W.heap.size, 1, none⟩ = some (.int .i64 lvl) := (blk_cell hb2 1).trans rfl
        have hW2 : Below n₀ w0 W2 := hW.trans (hK1.trans hK2).below
        have g3 : W2.cell? ⟨ad.block, ad.off + 3, none⟩ = some (.slice A3 g.f3.length c3) := cell_below (by rw [hn₀]; exact hW2) e3
        gi_wp2_with fail
        have HJ2 := Aside0.mk hJ2
        have HK2 := Aside0.mk (hK1.trans hK2)
        have HB2 := Aside0.mk hb2
        have HW := Aside0.mk hW
        have HLs := Aside0.mk hLs
        have E3 := Aside0.mk e3
        have E0 := Aside0.mk e0
        have HBX := Aside0.mk hbx
        clear hJ2 hK2 hb2 s0 s1 hW2 g3 e0 e1 e2 e3 hbx hj1 hK1 hW hLs h1 h2 h3 l1 l2 hA
        gi_loopw [16] (fun i wr => ∃ k : Nat, k ≤ g.f3.length ∧ i = .int .i64 (k : Int) ∧ Aside0 (J (pre ++ ⟨ad, lvl, of_, g⟩ :: firsts Ls k) wr) ∧ Aside0 (KpS n₀ W wr) ∧ Aside0 (wr.heap[W.heap.size]? = some (.cells #[.pointer (some ad), .int .i64 lvl, .int .i64 of_] 123 (0, 0)))) (fun i _ => g.f3.length - (intOf i).toNat)
        case atStart => exact ⟨0, Nat.zero_le _, rfl, ⟨HJ2.out⟩, HK2, HB2⟩
        case round =>
          clear HJ2 HK2 HB2
          obtain ⟨k, hk, rfl, HJ, HK, HB⟩ := hrel
          have s0 : wr.cell? ⟨W.heap.size, 0, none⟩ = some (.pointer (some ad)) := (blk_cell HB.out 0).trans rfl
          have s1 : wr.cell? ⟨W.heap.size, 1, none⟩ = some (.int .i64 lvl) := (blk_cell HB.out 1).trans rfl
          have hWr : Below n₀ w0 wr := HW.out.trans HK.out.below
          have g3 : wr.cell? ⟨ad.block, ad.off + 3, none⟩ = some (.slice A3 g.f3.length c3) := cell_below (by rw [hn₀]; exact hWr) E3.out
          have g0 : wr.cell? ad = some (.int .i64 g.f0) := cell_below (by rw [hn₀]; exact hWr) E0.out
          by_cases hlt' : k < g.f3.length
          · obtain ⟨a3, ea, _, hGi, hOK⟩ := HLs.out k hlt'
            obtain rfl := ea
            have hWr' := Aside0.mk hWr
            have HO := Aside0.mk hOK
            clear hWr hOK hGi
            gi_wp2_with fail
            refine Free.draws .plain hmx ?hq (by decide) ?_
            case hq => rintro ⟨_, _, h | h⟩ <;> cases h.1
            refine any_still_tail 17 (by kernel_rfl) ?_
            simp only [List.take_succ_cons, List.take_zero, List.drop_succ_cons, List.drop_zero]
            repeat still_step
            try refine wpStill_nil ?_
            go_wp2_with fail
            refine (callsIn_wide.1 (HO.out M (fun x hx => hM x (List.mem_cons_of_mem _ (firsts_mem Ls hlt' hx))) l N B J Jx hJ hY n _ _ (hWr'.out.drew) (AbidesFrom.drew_ hJ HJ.out) ?hlen)).mono ?_
            case hlen =>
              obtain ⟨r, hr⟩ := firsts_pre Ls (show k + 1 ≤ g.f3.length from hlt')
              rw [hr, firsts_succ] at hlen
              simp only [List.length_append, List.length_cons] at hlen ⊢
              omega
            rintro e W3 (⟨rfl, hJ3, hK3⟩ | ⟨rfl, q, hq, hx3⟩)
            · go_wp2_with fail
              gi_wp2_with fail
              go_roundw
              case rel => exact ⟨k + 1, by omega, by go_num, ⟨by rw [firsts_succ]; simpa using hJ3⟩, ⟨HK.out.drew.trans hK3⟩, ⟨hK3.box _ _ HB.out⟩⟩
              case measure => simp [intOf]; omega
            · go_wp2_with fail
              gi_wp2_with fail
              go_ret
              obtain ⟨r, hr⟩ := hq
              obtain ⟨r2, hr2⟩ := firsts_pre Ls (show k + 1 ≤ g.f3.length from hlt')
              exact .inr ⟨rfl, ⟨ad, lvl, of_, g⟩ :: (firsts Ls k ++ q), ⟨r ++ r2, by rw [hr2, firsts_succ, ← hr]; simp⟩, by simpa using hx3⟩
          · have hk2 : k = g.f3.length := by omega
            subst hk2
            clear hWr
            gi_wp2_with fail
            go_ret
            exact .inl ⟨rfl, HJ.out, HK.out⟩
      · gi_wp2_with fail
        go_ret
        exact .inr ⟨rfl, [⟨ad, lvl, of_, g⟩], ⟨_, rfl⟩, hx2⟩
theorem KpS.put {n₀ : Nat} {w : World} (hn : n₀ ≤ w.heap.size) (W : World) (l : Nat) (o o' : Obj) (hl : w.heap.size ≤ l) (h : W.heap[l]? = some o) (hc : o.isCells = false) (hw : o.isWalk = false) : KpS n₀ W (W.putObj l o') :=
  ⟨belowK_b hn W l o o' hl h hc hw, fun k cs hk => by
    refine (World.putObj_heap_other ?_).trans hk
    rintro rfl
    rw [h] at hk; cases hk; cases hc⟩
theorem RoundIn.anyDepth {m m' : Nat} {P : Program} {l : Nat} {f : FuncId} {tmps : Array Value} {assign body : Code} {w : World} {R : Ending → World → Prop}
    (h : RoundIn Fence.wide m P l f tmps assign body w R) : RoundIn Fence.wide m' P l f tmps assign body w R := ⟨h.1, fun c cs _ => h.2 c cs (room_wide _)⟩
theorem all_calls (ad : Addr) (w : World) :
    Calls Tryd.prog 53 #[.pointer (some ad)] w fun e w' => e = .returned (.func (.func 81) #[] #[.pointer (some ⟨w.heap.size, 0, none⟩)]) ∧ w' = w.alloc (.cells #[.pointer (some ad)] 121) := by
  go_enter Tryd.func53, Tryd.ntmps53
  go_wp2_with fail
  go_ret
  exact ⟨rfl, rfl⟩
theorem map_val {L : List Spot} {q : List {x // x ∈ L}} (h : q.map Subtype.val = L) : q = L.attach := by
  apply (List.map_inj_right (f := Subtype.val) (fun a b h => Subtype.ext h)).1
  rw [h, List.attach_map_subtype_val]
theorem map_val_pre {L : List Spot} {q : List {x // x ∈ L}} (h : q.map Subtype.val <+: L) : q <+: L.attach := by
  have e : q = L.attach.take q.length := by
    apply (List.map_inj_right (f := Subtype.val) (fun a b h => Subtype.ext h)).1
    rw [List.map_take, List.attach_map_subtype_val]
    have h2 := List.prefix_iff_eq_take.1 h
    rwa [List.length_map] at h2
  rw [e]
  exact List.take_prefix _ _
set_option maxHeartbeats 1000000 in
/-- The iterator over all geometries stops where a round says so, or gives all. -/
theorem all_stops (n : Nat) (n₀ : Nat) (w0 : World) (hn₀ : w0.heap.size = n₀) (g : Ge) (ad : Addr) (hA : GAt w0 ad g) (hbk : g.bulk ≤ 1073741824) (w : World) (hw : Below n₀ w0 w) (Bt : Nat) (hBt : w.cell? ⟨Bt, 0, none⟩ = some (.pointer (some ad))) :
    ∃ L : List Spot, L.map Spot.it = nodes g 1 0 ∧ (∀ x ∈ L, GAt w0 x.ad x.g) ∧
      SeqStopsK Fence.wide n Tryd.prog 81 #[.pointer (some ⟨Bt, 0, none⟩)] (fun x : {x // x ∈ L} => #[x.1.enc]) (KpS n₀) (fun ys => ys = L.attach) (fun pre => pre <+: L.attach) L.length w := by
  obtain ⟨L, h1, h2, h3⟩ := walk_ok n₀ w0 hn₀ g ad 1 0 hA (by omega) (by omega) hbk
  refine ⟨L, h1, h2, fun l J Jx W hW hJ hJx hY h0 => ?_⟩
  have hc : W.cell? ⟨Bt, 0, none⟩ = some (.pointer (some ad)) := cell_below hW hBt
  have hp := callsIn_wide.1 (h3 L (fun _ h => h) l L.length W.heap.size (fun pre W => ∃ q : List {x // x ∈ L}, q.map Subtype.val = pre ∧ J q W) (fun pre W => ∃ q : List {x // x ∈ L}, q.map Subtype.val = pre ∧ Jx q W)
    (fun s A B row hs hg hr => by obtain ⟨q, e, hq⟩ := hs; exact ⟨q, e, hJ q A B row hq hg hr⟩)
    (fun m pre x W1 hx hq hl _ => by
      obtain ⟨q, rfl, hq⟩ := hq
      obtain ⟨fn, tmps, assign, body, hy, hR⟩ := hY q ⟨x, hx⟩ W1 hq (by simpa using hl)
      refine ⟨fn, tmps, assign, body, hy, RoundIn.anyDepth (hR.mono ?_)⟩
      rintro e W2 (⟨he, hj, hk⟩ | ⟨he, hj⟩)
      · exact .inl ⟨he, ⟨_, by simp, hj⟩, hk⟩
      · exact .inr ⟨he, ⟨_, by simp, hj⟩⟩)
    0 [] W (hw.trans (hW.mono (by have := hw.size; omega))) ⟨[], rfl, h0⟩ (by simp))
  dsimp only [Spot.enc] at hp
  have HP := Aside0.mk hp
  clear hp h3 hY h0
  refine callsIn_wide.2 ?_
  show Calls Tryd.prog 81 #[.func (.yield l) #[] #[], .pointer (some ⟨Bt, 0, none⟩)] W _
  go_enter Tryd.func81, Tryd.ntmps81
  go_wp2_with fail
  refine HP.out.mono ?_
  rintro e W1 (⟨rfl, ⟨q, hq, hJ1⟩, _⟩ | ⟨rfl, p, hp, ⟨q, hq, hx⟩⟩)
  · go_wp2_with fail
    go_end0
    exact ⟨⟨_, rfl⟩, .inl ⟨q, map_val (by simpa using hq), hJ1⟩⟩
  · go_wp2_with fail
    go_end0
    refine ⟨⟨_, rfl⟩, .inr ⟨q, map_val_pre ?_, hx⟩⟩
    rw [hq]
    simpa using hp
end Go.Proofs.YtiiolhnpnlmkjaaDoor.Tree
namespace Go.Proofs.YtiiolhnpnlmkjaaDoor.Tree
open Go.RowKit Go.Proofs.YtiiolhnpnlmkjaaDoorW.PrintWords Go.Proofs.YtiiolhnpnlmkjaaDoorW.PrintLast Go.Proofs.YtiiolhnpnlmkjaaDoorW.PrintMore
/-- What a round does to memory: the iterator's boxes stay, what is no cells stays, what lay below stays. -/
structure Step (n₀ B : Nat) (W W' : World) : Prop where
  kp : KpS n₀ W W'
  from_ : KeepsFrom B W W'
theorem keepsFrom_below {B : Nat} {W W' : World} (h : Below W.heap.size W W') : KeepsFrom B W W' := ⟨h.size, fun k o _ hk _ => (h.block k (Array.getElem?_eq_some_iff.1 hk).1).trans hk⟩
theorem Step.refl (n₀ B : Nat) (W : World) : Step n₀ B W W := ⟨KpS.refl _ _, KeepsFrom.refl _ _⟩
theorem Step.trans {n₀ B : Nat} {X Y Z : World} (h : Step n₀ B X Y) (k : Step n₀ B Y Z) : Step n₀ B X Z := ⟨h.kp.trans k.kp, h.from_.trans k.from_⟩
theorem Step.below {n₀ B : Nat} {A W W' : World} (h : Step n₀ B A W) (hb : Below W.heap.size W W') (hn : n₀ ≤ W.heap.size) : Step n₀ B A W' := h.trans ⟨KpS.of_below hb hn, keepsFrom_below hb⟩
theorem Step.alloc {n₀ B : Nat} {A W : World} (h : Step n₀ B A W) (hn : n₀ ≤ W.heap.size) (o : Obj) : Step n₀ B A (W.alloc o) := h.below (below_alloc (Below.refl _ _) o) hn
theorem Step.drew {n₀ B : Nat} {A W : World} (h : Step n₀ B A W) : Step n₀ B A W.drew := ⟨h.kp.drew, h.from_.trans ⟨Nat.le_refl _, fun _ _ _ h _ => h⟩⟩
theorem Step.set {n₀ B : Nat} {A W : World} (h : Step n₀ B A W) {g t j : Nat} {cs : Array Value} (hb : W.heap[g]? = some (.cells cs t (0, 0))) (ht : t ≠ 123) (hn : n₀ ≤ g) (v : Value) : Step n₀ B A (W.setCell ⟨g, j, none⟩ v) :=
  ⟨h.kp.trans ((KpS.refl n₀ W).set hb ht hn v), h.from_.trans ((KeepsOthers.setCell _ _ _).from B)⟩
theorem Step.grown {n₀ B : Nat} {A W W' : World} (h : Step n₀ B A W) {row : Option Nat} (hg : W.grownBy W' row) (hn : n₀ ≤ W.heap.size) (hr : ∀ k, row = some k → n₀ ≤ k ∧ ∃ cs t, W.heap[k]? = some (.cells cs t (0, 0)) ∧ t ≠ 123) : Step n₀ B A W' :=
  ⟨h.kp.trans ((KpS.refl n₀ W).grown hg hn hr), h.from_.trans ((KeepsOthers.of_grownBy hg (fun j o e hj => by obtain ⟨_, cs, t, h2, _⟩ := hr j e; rw [h2] at hj; cases hj; rfl)).from B)⟩
/-- How a round may be left. -/
def allPost (n₀ B : Nat) (I Ix : List It → World → Prop) (xs : List It) (W : World) : Exit → Act → World → Prop
  | .normal, _, W' => Step n₀ B W W' ∧ I xs W'
  | .ret, _, W' => Step n₀ B W W' ∧ Ix xs W'
  | _, _, _ => False
def itsOf {L : List Spot} (pre : List {x // x ∈ L}) : List It := pre.map fun x => x.1.it
theorem itsOf_snoc {L : List Spot} (pre : List {x // x ∈ L}) (x : {x // x ∈ L}) : itsOf (pre ++ [x]) = itsOf pre ++ [x.1.it] := by simp [itsOf]
theorem itsOf_all (L : List Spot) : itsOf L.attach = L.map Spot.it := by
  unfold itsOf
  conv => rhs; rw [← List.attach_map_subtype_val L]
  rw [List.map_map]; rfl
/-- Where the loop has ended. -/
def behind (a : Act) (D : Nat) : Act := { a with defers := { target := .collected D, args := #[] } :: a.defers }
set_option maxHeartbeats 1000000 in
theorem range_all {gOp : Operand} {ps : Array Tmp} {assign body : Code} {Q : Exit → Act → World → Prop} {a : Act} {w : World} (n₀ : Nat) (w0 : World) (hn₀ : w0.heap.size = n₀) (g : Ge) (ad : Addr) (hA : GAt w0 ad g) (hbk : g.bulk ≤ 1073741824) (hw : Below n₀ w0 w)
    (Bt : Nat) (hBt : w.cell? ⟨Bt, 0, none⟩ = some (.pointer (some ad))) (hg : a.eval gOp = .func (.func 81) #[] #[.pointer (some ⟨Bt, 0, none⟩)]) (hps : ps.size = 1) (frame : Spot → Nat → Act)
    (hassign : ∀ (l : Nat) (x : Spot) (W : World) (K : Act → World → Prop), K (frame x W.heap.size) (W.alloc (.cells #[.pointer (some x.ad), .int .i64 x.lvl, .int .i64 x.of_] 123)) →
      assign.wpIn (Fence.wide.inRound l) 1 Tryd.prog (Exit.then K (fun _ _ _ => False)) { tmps := (ps.zip #[x.enc]).foldl (fun t (p, v) => t.setIfInBounds p v) a.tmps, defers := [] } W)
    (I Ix : List It → World → Prop) (hI : OwnFrom w.heap.size I) (hIx : OwnFrom w.heap.size Ix) (h0 : I [] w)
    (hbody : ∀ (l : Nat) (pre : List It) (x : Spot) (Bx : Nat) (W : World), (∀ y ∈ pre ++ [x.it], y ∈ nodes g 1 0) → GAt w0 x.ad x.g → Below n₀ w0 W → n₀ ≤ W.heap.size → w.heap.size ≤ Bx → W.heap[Bx]? = some (.cells #[.pointer (some x.ad), .int .i64 x.lvl, .int .i64 x.of_] 123 (0, 0)) →
      I pre W → (pre ++ [x.it]).length ≤ (nodes g 1 0).length → body.wpIn (Fence.wide.inRound l) 1 Tryd.prog (allPost n₀ w.heap.size I Ix (pre ++ [x.it]) W) (frame x Bx) W)
    (hdone : ∀ (D : Nat) (W : World), w.heap.size ≤ D → I (nodes g 1 0) W → Below n₀ w0 W → W.heap[D]? = some (.deferred (some [])) → Q .normal (behind a D) W)
    (hstop : ∀ (D : Nat) (p : List It) (W : World), w.heap.size ≤ D → p <+: nodes g 1 0 → Ix p W → Below n₀ w0 W → W.heap[D]? = some (.deferred (some [])) → Code.ret.wpIn Fence.wide 3 Tryd.prog Q (behind a D) W) :
    (Code.rangeFunc gOp ps assign body).wpIn Fence.wide 3 Tryd.prog Q a w := by
  obtain ⟨L, h1, h2, h3⟩ := all_stops (3 - 1) n₀ w0 hn₀ g ad hA hbk w hw Bt hBt
  have hsz : n₀ ≤ w.heap.size := by have := hw.size; omega
  have hlen : (nodes g 1 0).length = L.length := by rw [← h1, List.length_map]
  refine wpIn_rangeFunc_ownH rfl (by omega) (gf := 81) (lb := #[.pointer (some ⟨Bt, 0, none⟩)]) hg trivial (Go.Proofs.enters_of Tryd.func81 (by kernel_rfl) rfl) h3 (fun h k => h.trans k) (KpS.put hsz) (Below.refl _ _) (fun _ => by rw [hps]; rfl)
    (fun (pre : List {x // x ∈ L}) W => I (itsOf pre) W ∧ Below n₀ w0 W ∧ w.heap.size ≤ W.heap.size) (fun c (pre : List {x // x ∈ L}) W => c = .ret ∧ Ix (itsOf pre) W ∧ Below n₀ w0 W)
    (OwnFrom.and (fun s A B row hs hg hr => hI _ A B row hs hg hr) (OwnFrom.and (ownFrom_below (by omega) hsz) (fun s A B row hs hg hr => Nat.le_trans hs hg.size)))
    (fun c => OwnFrom.and (ownFrom_pure _ _) (OwnFrom.and (fun s A B row hs hg hr => hIx _ A B row hs hg hr) (ownFrom_below (by omega) hsz)))
    ⟨h0, hw, Nat.le_refl _⟩
    (fun x a' W => ∃ Bx, w.heap.size ≤ Bx ∧ W.heap[Bx]? = some (.cells #[.pointer (some x.1.ad), .int .i64 x.1.lvl, .int .i64 x.1.of_] 123 (0, 0)) ∧ a' = frame x.1 Bx)
    (fun x a' => ?hAx) ?hassign ?hbody ?hdone ?hstop
  case hAx =>
    rintro s A B row ⟨Bx, hB, hb, e⟩ hg hr
    exact ⟨Bx, hB, (grownBy_keeps_cells hg (fun r e => (hr r e).2) hb rfl).trans hb, e⟩
  case hassign =>
    rintro l pre x W K ⟨hi, hb, hW⟩ hK
    have hb2 : Below n₀ W (W.alloc (.cells #[.pointer (some x.1.ad), .int .i64 x.1.lvl, .int .i64 x.1.of_] 123)) := (Below.refl _ _).alloc (by have := hb.size; omega) _
    exact hassign l x.1 W K (hK _ _ ((KeepsOthers.alloc _ _).from _) ((KpS.refl _ _).alloc (by have := hb.size; omega) _) ⟨hI _ _ _ none hi (World.grownBy_alloc W _ none) (fun r e => by cases e), hb.trans hb2, by simp; omega⟩ ⟨W.heap.size, hW, World.alloc_heap_new W _, rfl⟩)
  case hbody =>
    rintro l pre x a' W _ _ ⟨hi, hb, hW⟩ ⟨Bx, hB, hbx, rfl⟩ hlt
    have hm : ∀ y ∈ itsOf pre ++ [x.1.it], y ∈ nodes g 1 0 := by
      intro y hy
      rw [← h1]
      rcases List.mem_append.1 hy with hy | hy
      · unfold itsOf at hy
        obtain ⟨z, _, rfl⟩ := List.mem_map.1 hy
        exact List.mem_map_of_mem z.2
      · rw [List.mem_singleton.1 hy]; exact List.mem_map_of_mem x.2
    have := hbody l (itsOf pre) x.1 Bx W hm (h2 _ x.2) hb (by have := hb.size; omega) hB hbx hi (by rw [hlen, itsOf]; simp; omega)
    refine wpIn_mono this ?_
    rintro e a3 W3 hp
    cases e with
    | normal =>
      obtain ⟨hs, hi3⟩ := hp
      exact ⟨hs.from_, hs.kp, by rw [itsOf_snoc]; exact hi3, hb.trans hs.kp.below, Nat.le_trans hW hs.kp.below.size⟩
    | ret =>
      obtain ⟨hs, hi3⟩ := hp
      exact ⟨hs.from_, rfl, by rw [itsOf_snoc]; exact hi3, hb.trans hs.kp.below⟩
    | exit id => exact hp.elim
    | goto t => exact hp.elim
    | panic ch => exact hp.elim
    | outgrown => exact hp.elim
  case hdone =>
    rintro D xs W hD rfl ⟨hi, hb, hW⟩ hK
    refine hdone D W hD ?_ hb hK
    rw [itsOf_all, h1] at hi
    exact hi
  case hstop =>
    rintro D c pre W hD hp ⟨rfl, hi, hb⟩ hK
    refine hstop D _ W hD ?_ hi hb hK
    rw [← h1, ← itsOf_all]
    exact hp.map _
end Go.Proofs.YtiiolhnpnlmkjaaDoor.Tree
namespace Go.Proofs.YtiiolhnpnlmkjaaDoor.Tree
open Go.RowKit Go.Proofs.YtiiolhnpnlmkjaaDoorW.PrintWords Go.Proofs.YtiiolhnpnlmkjaaDoorW.PrintLast Go.Proofs.YtiiolhnpnlmkjaaDoorW.PrintMore
attribute [local go_sem] Oper.semAt_some max2_int max_two
theorem blk_set1 {w : World} {g : Nat} {t : TypeId} {v : Value} (h : w.heap[g]? = some (.cells #[v] t (0, 0))) (u : Value) : (w.setCell ⟨g, 0, none⟩ u).heap[g]? = some (.cells #[u] t (0, 0)) := by simpa using blk_set h 0 u
theorem heap_old {W : World} {k : Nat} {b : Obj} (h : W.heap[k]? = some b) (o : Obj) : (W.alloc o).heap[k]? = some b := (Below.heap_alloc W o k (blk_lt h)).trans h
theorem heap_at {W : World} {k : Nat} (h : W.heap.size = k) (o : Obj) : (W.alloc o).heap[k]? = some o := by subst h; exact World.alloc_heap_new _ _
/-- An error: nil, or a new api.Fault with its place and its number. -/
def ErrV (w : World) (v : Value) : Option (Int × Int) → Prop
  | none => v = .nilIface
  | some (a, c) => ∃ g : Nat, v = .iface 109 (.pointer (some ⟨g, 0, none⟩)) ∧ w.heap[g]? = some (.cells #[.int .i64 a, .iface 70 (.int .i64 c)] 113 (0, 0))
theorem ErrV.below {w w1 : World} {v : Value} {x : Option (Int × Int)} (h : ErrV w v x) (hb : Below w.heap.size w w1) : ErrV w1 v x := by
  rcases x with _ | ⟨a, c⟩
  · exact h
  · obtain ⟨g, e, h⟩ := h
    exact ⟨g, e, (hb.block g (Array.getElem?_eq_some_iff.1 h).1).trans h⟩
theorem wrap_calls (a c : Int) (w : World) :
    Calls Tryd.prog 56 #[.int .i64 a, .int .i64 c] w fun e w' => ∃ v, e = .returned v ∧ ErrV w' v (some (a, c)) ∧ Below w.heap.size w w' := by
  go_enter Tryd.func56, Tryd.ntmps56
  go_wp2_with fail
  go_ret
  refine ⟨_, rfl, ⟨_, rfl, ?_⟩, by repeat (first | exact Below.refl _ _ | apply below_alloc)⟩
  exact World.alloc_heap_new _ _
/-- What is wrong with a tree's geometries in the order of the text, so many geometries and points ahead of them. -/
def scanC (k n : Nat) : List It → Option (Int × Int)
  | [] => none
  | x :: l => if wrongC x ((n + 1 + (own x.f0).length : Nat) : Int) = 0 then scanC (k + 1) (n + 1 + (own x.f0).length) l else some ((k : Int), wrongC x ((n + 1 + (own x.f0).length : Nat) : Int))
theorem scanC_cons (k n : Nat) (x : It) (l : List It) : scanC k n (x :: l) = if wrongC x ((n + 1 + (own x.f0).length : Nat) : Int) = 0 then scanC (k + 1) (n + 1 + (own x.f0).length) l else some ((k : Int), wrongC x ((n + 1 + (own x.f0).length : Nat) : Int)) := rfl
theorem ptsOf_cons (x : It) (l : List It) : ptsOf (x :: l) = (own x.f0).length + ptsOf l := by
  have : ∀ (l : List It) (m : Nat), l.foldl (fun n x => n + (own x.f0).length) m = m + ptsOf l := by
    intro l
    induction l with
    | nil => intro m; rfl
    | cons y l ih =>
      intro m
      unfold ptsOf
      rw [List.foldl_cons, List.foldl_cons, ih, ih]; omega
  unfold ptsOf
  rw [List.foldl_cons, this, ptsOf]; omega
theorem scanC_append (p : List It) : ∀ (k n : Nat) (q : List It), scanC k n p = none → scanC k n (p ++ q) = scanC (k + p.length) (n + p.length + ptsOf p) q := by
  induction p with
  | nil => intro k n q _; rfl
  | cons x p ih =>
    intro k n q h
    rw [List.cons_append]
    rw [scanC_cons] at h ⊢
    split at h
    · rename_i c
      rw [if_pos c, ih _ _ _ h, ptsOf_cons, List.length_cons]
      rw [show k + 1 + p.length = k + (p.length + 1) by omega, show n + 1 + (own x.f0).length + p.length + ptsOf p = n + (p.length + 1) + ((own x.f0).length + ptsOf p) by omega]
    · cases h
theorem scanC_stop (p : List It) : ∀ (k n : Nat) (q : List It) (e : Int × Int), scanC k n p = some e → scanC k n (p ++ q) = some e := by
  induction p with
  | nil => intro k n q e h; cases h
  | cons x p ih =>
    intro k n q e h
    rw [List.cons_append]
    rw [scanC_cons] at h ⊢
    split at h
    · rename_i c
      rw [if_pos c]; exact ih _ _ _ _ h
    · rename_i c
      rw [if_neg c]; exact h
/-- A tree's flaw: the place, the number. -/
def checkR (g : Ge) : Option (Int × Int) := scanC 0 0 (nodes g 1 0)
theorem results_err {fn : Func} {a : Tmp} (h : fn.results = #[.cell a 32]) (tmps : Array Value) (w : World) {ad : Addr} {u : Value} (hp : tmps.getD a undef = .pointer (some ad)) (hc : w.cell? ad = some u) : (results fn tmps).run Tryd.prog w = .ok u w := by
  rw [Array.getD_eq_getD_getElem?] at hp
  simp [results, h, hp, hc, go_sem, asAddr]
theorem put_far {w : World} {k : Nat} {b : Obj} (h : w.heap[k]? = some b) {D : Nat} (hne : k ≠ D) (o : Obj) : (w.putObj D o).heap[k]? = some b := by
  simp [World.putObj, Array.getElem?_setIfInBounds, Ne.symm hne, h]
theorem below_set1 {w : World} {n g t : Nat} {cs : Array Value} (h : w.heap[g]? = some (.cells cs t (0, 0))) (hn : n ≤ g) (u : Value) : Below n w (w.setCell ⟨g, 0, none⟩ u) := (Below.refl n w).setCell hn u
theorem tot_eq (a b c : Nat) : (((0 + a + b + 1 + c : Nat)) : Int) = (a : Int) + (b : Int) + (1 + (c : Int)) := by omega
theorem tot_eq2 (a b c : Nat) : (((a + 1 : Nat)) : Int) + ((b + c : Nat) : Int) = (a : Int) + (b : Int) + (1 + (c : Int)) := by omega
theorem ErrV.far {w : World} {v u : Value} {x : Option (Int × Int)} (h : ErrV w v x) {b : Nat} {cs : Array Value} (hk : w.heap[b]? = some (.cells cs 32 (0, 0))) : ErrV (w.setCell ⟨b, 0, none⟩ u) v x := by
  rcases x with _ | ⟨a, c⟩
  · exact h
  · obtain ⟨g, e, h⟩ := h
    refine ⟨g, e, blk_far h (p := ⟨b, 0, none⟩) ?_ _⟩
    intro he
    have he' : g = b := he
    subst he'
    rw [hk] at h
    cases h
set_option maxRecDepth 100000 in
set_option maxHeartbeats 4000000 in
theorem check_calls (v : Value) (g : Ge) (w : World) (hv : IsG w v g) (hbk : g.bulk ≤ 1073741824) :
    Calls Tryd.prog 44 #[v] w fun e w' => ∃ u, e = .returned u ∧ ErrV w' u (checkR g) ∧ Below w.heap.size w w' := by
  have hv' := hv
  obtain ⟨A1, c1, A2, c2, A3, c3, rfl, _⟩ := hv'
  obtain ⟨w0, hw0⟩ : ∃ w0, w0 = w.alloc (.cells #[.int .i64 g.f0, .slice A1 g.f1.length c1, .slice A2 g.f2.length c2, .slice A3 g.f3.length c3] 28) := ⟨_, rfl⟩
  have hs0 : w0.heap.size = w.heap.size + 1 := by rw [hw0]; simp
  have hG : GAt w0 ⟨w.heap.size, 0, none⟩ g := by
    refine GAt.box (hv.below (w1 := w0) ?_) (b := w.heap.size) (cs := #[.int .i64 g.f0, .slice A1 g.f1.length c1, .slice A2 g.f2.length c2, .slice A3 g.f3.length c3]) ?_ rfl
    · rw [hw0]; exact below_alloc (Below.refl _ _) _
    · rw [hw0]; exact World.alloc_heap_new w _
  refine (callsIn_wide (n := 3)).1 ?_
  refine callsIn_of_wp_marks Tryd.func44 rfl trivial ?_ rfl
  simp only [Tryd.ntmps44, List.size_toArray, List.length_cons, List.length_nil, Nat.reduceAdd, Nat.reduceSub, Array.replicate_succ, Array.replicate_zero, List.push_toArray, List.append_toArray, List.nil_append, List.cons_append]
  gi_wp2_with fail
  refine ⟨trivial, ?_⟩
  refine (Free.plain.calls (all_calls _ _)).mono ?_
  rintro e w' ⟨rfl, rfl⟩
  gi_wp2_with fail
  refine range_all (w0.heap.size) w0 rfl g ⟨w.heap.size, 0, none⟩ hG hbk ?hw (w.heap.size + 4) ?hBt rfl rfl
    (fun x B => { tmps := #[Value.agg #[.int .i64 g.f0, .slice A1 g.f1.length c1, .slice A2 g.f2.length c2, .slice A3 g.f3.length c3], .pointer (some ⟨w.heap.size, 0, none⟩), .pointer (some ⟨w.heap.size + 1, 0, none⟩), .pointer (some ⟨w.heap.size + 2, 0, none⟩), .pointer (some ⟨w.heap.size + 3, 0, none⟩), .pointer (some ⟨B, 0, none⟩), undef, .func (.func 81) #[] #[.pointer (some ⟨w.heap.size + 4, 0, none⟩)], x.enc, undef, undef, undef, undef, undef, undef, undef, undef, undef, undef, undef, undef, undef, undef, undef, undef], defers := [] })
    ?hassign
    (fun pre W => W.heap[w.heap.size + 1]? = some (.cells #[.nilIface] 32 (0, 0)) ∧ W.heap[w.heap.size + 2]? = some (.cells #[.int .i64 pre.length] 3 (0, 0)) ∧ W.heap[w.heap.size + 3]? = some (.cells #[.int .i64 ((pre.length : Int) + (ptsOf pre : Int))] 3 (0, 0)) ∧ scanC 0 0 pre = none)
    (fun pre W => ∃ u x, W.heap[w.heap.size + 1]? = some (.cells #[u] 32 (0, 0)) ∧ scanC 0 0 pre = some x ∧ ErrV W u (some x)) ?hI ?hIx ?h0 ?hbody ?hdone ?hstop
  case hw => rw [hw0]; exact ((((Below.refl _ _).alloc (Nat.le_refl _) _).alloc (by simp) _).alloc (by simp) _).alloc (by simp) _
  case hBt => exact (blk_cell (heap_at (by simp) _) 0).trans rfl
  case hassign =>
    intro l x W K hK
    dsimp only [Spot.enc]
    gi_wp2
    exact hK
  case hI =>
    rintro s A B row ⟨h1, h2, h3, h4⟩ hg hr
    exact ⟨(grownBy_keeps_cells hg (fun r e => (hr r e).2) h1 rfl).trans h1, (grownBy_keeps_cells hg (fun r e => (hr r e).2) h2 rfl).trans h2, (grownBy_keeps_cells hg (fun r e => (hr r e).2) h3 rfl).trans h3, h4⟩
  case hIx =>
    rintro s A B row ⟨u, x, h1, h2, ⟨k, h3, h4⟩⟩ hg hr
    exact ⟨u, x, (grownBy_keeps_cells hg (fun r e => (hr r e).2) h1 rfl).trans h1, h2, k, h3, (grownBy_keeps_cells hg (fun r e => (hr r e).2) h4 rfl).trans h4⟩
  case h0 => exact ⟨heap_old (heap_old (heap_old (heap_at (by simp) _) _) _) _, heap_old (heap_old (heap_at (by simp) _) _) _, heap_old (heap_at (by simp) _) _, rfl⟩
  case hbody =>
    rintro l pre x Bx W hm hGx hb hn hB hbx ⟨hi1, hi2, hi3, hi4⟩ hlen
    have hmx : Tryd.prog.follows .mixedOrders = true := by kernel_rfl
    simp only [World.size_alloc] at hB
    have hp := ptsOf_le (pre ++ [x.it]) 1073741824 (fun y hy => by have := nodes_bulk (hm y hy); have := own_len y.f0; omega)
    have hl := nodes_len g 1 0
    have hp2 : (pre ++ [x.it]).length * 1073741824 ≤ 1073741824 * 1073741824 := Nat.mul_le_mul_right _ (by omega)
    rw [ptsOf_snoc] at hp
    rw [List.length_append, List.length_singleton] at hlen
    have hbx' := nodes_bulk (hm x.it (by simp))
    have b1 : pre.length + 1 ≤ 1073741824 := by omega
    have b2 : ptsOf pre + (own x.g).length ≤ 1152921504606846976 := by have : (own x.it.f0).length = (own x.g).length := rfl; omega
    have m3 : W.drew.cell? ⟨w.heap.size + 3, 0, none⟩ = some (.int .i64 ((pre.length : Int) + (ptsOf pre : Int))) := (blk_cell (w := W.drew) hi3 0).trans rfl
    have f3 : W.drew.frozen? ⟨w.heap.size + 3, 0, none⟩ = false := blk_frozen (w := W.drew) hi3 0
    have t0 : W.drew.cell? ⟨Bx, 0, none⟩ = some (.pointer (some x.ad)) := (blk_cell (w := W.drew) hbx 0).trans rfl
    have HO := Aside0.mk (own_calls x.g x.ad W.drew (hGx.below (hb.trans (below_drew (Below.refl _ _)))) (by exact Nat.le_trans hbx' hbk))
    obtain ⟨W2, hW2⟩ : ∃ W2, W2 = (W.setCell ⟨w.heap.size + 3, 0, none⟩ (.int .i64 ((pre.length : Int) + (ptsOf pre : Int) + (1 + ((own x.g).length : Int))))).drew := ⟨_, rfl⟩
    have k1 : W2.heap[w.heap.size + 1]? = some (.cells #[.nilIface] 32 (0, 0)) := by rw [hW2]; exact blk_far hi1 (p := ⟨w.heap.size + 3, 0, none⟩) (by simp) _
    have k2 : W2.heap[w.heap.size + 2]? = some (.cells #[.int .i64 pre.length] 3 (0, 0)) := by rw [hW2]; exact blk_far hi2 (p := ⟨w.heap.size + 3, 0, none⟩) (by simp) _
    have k3 : W2.heap[w.heap.size + 3]? = some (.cells #[.int .i64 ((pre.length : Int) + (ptsOf pre : Int) + (1 + ((own x.g).length : Int)))] 3 (0, 0)) := by rw [hW2]; exact blk_set1 hi3 _
    have kx : W2.heap[Bx]? = some (.cells #[.pointer (some x.ad), .int .i64 x.lvl, .int .i64 x.of_] 123 (0, 0)) := by rw [hW2]; exact blk_far hbx (p := ⟨w.heap.size + 3, 0, none⟩) (by show Bx ≠ w.heap.size + 3; omega) _
    have st2 : Step w0.heap.size (((((w.alloc (.cells #[.int .i64 g.f0, .slice A1 g.f1.length c1, .slice A2 g.f2.length c2, .slice A3 g.f3.length c3] 28)).alloc (.cells #[.nilIface] 32)).alloc (.cells #[.int .i64 0] 3)).alloc (.cells #[.int .i64 0] 3)).alloc (.cells #[.pointer (some ⟨w.heap.size, 0, none⟩)] 121)).heap.size W W2 := by
      rw [hW2]; exact ((Step.refl _ _ _).set hi3 (by decide) (by omega) _).drew
    have hn2 : w0.heap.size ≤ W2.heap.size := by rw [hW2]; simpa using hn
    have u0 : W2.cell? ⟨Bx, 0, none⟩ = some (.pointer (some x.ad)) := (blk_cell kx 0).trans rfl
    have u1 : W2.cell? ⟨Bx, 1, none⟩ = some (.int .i64 x.lvl) := (blk_cell kx 1).trans rfl
    have u2 : W2.cell? ⟨Bx, 2, none⟩ = some (.int .i64 x.of_) := (blk_cell kx 2).trans rfl
    have u3 : W2.cell? ⟨w.heap.size + 3, 0, none⟩ = some (.int .i64 ((pre.length : Int) + (ptsOf pre : Int) + (1 + ((own x.g).length : Int)))) := (blk_cell k3 0).trans rfl
    obtain ⟨c, hc⟩ : ∃ c, c = wrongC x.it ((pre.length : Int) + (ptsOf pre : Int) + (1 + ((own x.g).length : Int))) := ⟨_, rfl⟩
    have hwr := wrong_calls x.it ((pre.length : Int) + (ptsOf pre : Int) + (1 + ((own x.g).length : Int))) x.ad W2 (hGx.below (hb.trans st2.kp.below)) (by exact Nat.le_trans hbx' hbk)
    rw [← hc] at hwr
    have HWR := Aside0.mk hwr
    have HS := Aside0.mk (show scanC 0 0 (pre ++ [x.it]) = if c = 0 then none else some ((pre.length : Int), c) by
      rw [scanC_append pre 0 0 _ hi4, scanC_cons, show (((0 + pre.length + ptsOf pre + 1 + (own x.it.f0).length : Nat)) : Int) = (pre.length : Int) + (ptsOf pre : Int) + (1 + ((own x.g).length : Int)) from tot_eq _ _ _, ← hc]
      simp [scanC])
    have K1 := Aside0.mk k1
    have K2 := Aside0.mk k2
    have K3 := Aside0.mk k3
    have ST := Aside0.mk st2
    have HW2 := Aside0.mk hW2
    have HN2 := Aside0.mk (And.intro hn2 hs0)
    clear hi1 hi2 hi3 hi4 hm hGx hb hn hB hbx hlen hp hl hp2 hbx' k1 k2 k3 kx st2 hn2 hwr hc hW2 hs0
    gi_wp2_with fail
    refine Free.draws (.round l) hmx ?hq (by decide) ?_
    case hq => rintro ⟨_, _, h⟩; exact h
    refine any_still_tail 6 (by kernel_rfl) ?_
    simp only [List.take_succ_cons, List.take_zero, List.drop_succ_cons, List.drop_zero]
    repeat still_step
    still_call HO.out
    repeat still_step
    refine wpStill_nil ?_
    go_wp2_with fail
    rw [← HW2.out]
    gi_wp2_with fail
    refine ⟨trivial, ((Free.round l).calls HWR.out).mono ?_⟩
    rintro e W3 ⟨rfl, hb3⟩
    have ST3 := Aside0.mk (ST.out.below hb3 HN2.out.1)
    have k1 := (hb3.block _ (blk_lt K1.out)).trans K1.out
    have k2 := (hb3.block _ (blk_lt K2.out)).trans K2.out
    have k3 := (hb3.block _ (blk_lt K3.out)).trans K3.out
    have HN3 := Aside0.mk (And.intro (Nat.le_trans HN2.out.1 hb3.size) HN2.out.2)
    have m2 : W3.cell? ⟨w.heap.size + 2, 0, none⟩ = some (.int .i64 pre.length) := (blk_cell k2 0).trans rfl
    clear K1 K2 K3 ST HN2 hb3
    by_cases hc : c = 0
    · subst hc
      have f2 := blk_frozen k2 0
      have K1 := Aside0.mk k1
      have K2 := Aside0.mk k2
      have K3 := Aside0.mk k3
      clear k1 k2 k3
      gi_wp2_with fail
      refine ⟨ST3.out.set K2.out (by decide) (by have := HN3.out; omega) _, ?_⟩
      show _ ∧ _ ∧ _ ∧ _
      rw [List.length_append, List.length_singleton, ptsOf_snoc]
      refine ⟨blk_far K1.out (p := ⟨w.heap.size + 2, 0, none⟩) (by simp) _, blk_set1 K2.out _, ?_, ?_⟩
      · rw [tot_eq2]
        exact blk_far K3.out (p := ⟨w.heap.size + 2, 0, none⟩) (by simp) _
      · rw [HS.out]; simp
    · have q0 : (c == 0) = false := beq_eq_false_iff_ne.mpr hc
      have HC0 := Aside0.mk hc
      have K1 := Aside0.mk k1
      clear k1 k2 k3 hc
      gi_wp2_with fail
      refine ⟨trivial, ((Free.round l).calls (wrap_calls _ _ W3)).mono ?_⟩
      rintro e W4 ⟨u, rfl, ⟨gk, rfl, hu⟩, hb4⟩
      have k1 := (hb4.block _ (blk_lt K1.out)).trans K1.out
      have f1 := blk_frozen k1 0
      have m1 : W4.cell? ⟨w.heap.size + 1, 0, none⟩ = some .nilIface := (blk_cell k1 0).trans rfl
      have ST4 := Aside0.mk (ST3.out.below hb4 HN3.out.1)
      have HU := Aside0.mk hu
      have K4 := Aside0.mk k1
      clear hu k1 hb4 K1
      gi_wp2_with fail
      refine ⟨ST4.out.set K4.out (by decide) (by have := HN3.out; omega) _, _, ((pre.length : Int), c), blk_set1 K4.out _, ?_, ErrV.far (x := some ((pre.length : Int), c)) ⟨gk, rfl, HU.out⟩ K4.out⟩
      rw [HS.out, if_neg HC0.out]
  case hdone =>
    rintro D W hD ⟨hi1, hi2, hi3, hi4⟩ hb hK
    simp only [World.size_alloc] at hD
    have f1 := blk_frozen hi1 0
    have m1 : W.cell? ⟨w.heap.size + 1, 0, none⟩ = some .nilIface := (blk_cell hi1 0).trans rfl
    have K1 := Aside0.mk hi1
    dsimp only [behind]
    clear hi1 hi2 hi3
    gi_wp2_with fail
    have hK2 : (W.setCell ⟨w.heap.size + 1, 0, none⟩ .nilIface).heap[D]? = some (.deferred (some [])) := (Below.heap_setCell _ _ _ _ (by show D ≠ w.heap.size + 1; omega)).trans hK
    refine ⟨by simp, .inl ⟨_, _, rfl, run_takeDeferred hK2, ?_⟩⟩
    have hb0 : Below w.heap.size w w0 := by rw [hw0]; exact below_alloc (Below.refl _ _) _
    have hne : w.heap.size + 1 ≠ D := by omega
    have hc0 : ((W.setCell ⟨w.heap.size + 1, 0, none⟩ .nilIface).putObj D (.deferred none)).cell? ⟨w.heap.size + 1, 0, none⟩ = some .nilIface := (blk_cell (put_far (blk_set1 K1.out _) hne _) 0).trans rfl
    refine ⟨_, results_err rfl _ _ rfl hc0, _, rfl, ?_, ?_⟩
    · unfold checkR; rw [hi4]; rfl
    · have h1 := (hb0.trans (hb.mono (by omega))).trans (below_set1 (w := W) K1.out (by omega) .nilIface)
      exact h1.grown (grownBy_putObj' _ _ _) (by simp; have := hb.size; omega) (fun k e => by cases e; omega)
  case hstop =>
    rintro D p W hD ⟨q, hp⟩ ⟨u, x, hi1, hi2, hi3⟩ hb hK
    simp only [World.size_alloc] at hD
    dsimp only [behind]
    gi_wp2_with fail
    refine ⟨by simp, .inl ⟨_, _, rfl, run_takeDeferred hK, ?_⟩⟩
    have hb0 : Below w.heap.size w w0 := by rw [hw0]; exact below_alloc (Below.refl _ _) _
    have hne : w.heap.size + 1 ≠ D := by omega
    have hc0 : (W.putObj D (.deferred none)).cell? ⟨w.heap.size + 1, 0, none⟩ = some u := (blk_cell (put_far hi1 hne _) 0).trans rfl
    refine ⟨_, results_err rfl _ _ rfl hc0, _, rfl, ?_, ?_⟩
    · unfold checkR; rw [← hp, scanC_stop _ _ _ _ _ hi2]
      obtain ⟨g, e, h⟩ := hi3
      refine ⟨g, e, put_far h (fun he => ?_) _⟩
      subst he
      rw [hK] at h; cases h
    · exact (hb0.trans (hb.mono (by omega))).grown (grownBy_putObj' _ _ _) (by have := hb.size; omega) (fun k e => by cases e; omega)
end Go.Proofs.YtiiolhnpnlmkjaaDoor.Tree
