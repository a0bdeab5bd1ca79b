/- The reference's items and Small by contracts. No conditions but those told. -/
import Derived.Test.YtiiolhnpnlmkjaaDoorTRef
import Derived.StillTailTactics
namespace Go.Proofs.YtiiolhnpnlmkjaaDoor.Tree
open Go.RowKit Go.Proofs.YtiiolhnpnlmkjaaDoorW.PrintWords Go.Proofs.YtiiolhnpnlmkjaaDoorW.PrintLast Go.Proofs.YtiiolhnpnlmkjaaDoorW.PrintMore
set_option linter.unusedVariables false
set_option linter.unusedSimpArgs false
structure Stop (p : Prop) : Prop where mk :: (out : p)
theorem stop_ {p : Prop} (h : Stop p) : p := h.out
/-- A row has grown, perhaps in a new block; no other block that lay there was written. -/
structure OnlyRow (W W' : World) (v v' : Value) : Prop where
  size : W.heap.size ≤ W'.heap.size
  same : ∀ k, k < W.heap.size → some k ≠ v.ownBlock → W'.heap[k]? = W.heap[k]?
  new : ∀ k, v'.ownBlock = some k → v.ownBlock = some k ∨ W.heap.size ≤ k
theorem OnlyRow.trans {W W' W2 : World} {v v' v2 : Value} (h : OnlyRow W W' v v') (k : OnlyRow W' W2 v' v2) : OnlyRow W W2 v v2 :=
  ⟨Nat.le_trans h.size k.size, fun i hi hne => (k.same i (Nat.lt_of_lt_of_le hi h.size) (fun e => by
      rcases h.new i e.symm with h1 | h1
      · exact hne h1.symm
      · omega)).trans (h.same i hi hne), fun i hi => by
      rcases k.new i hi with h1 | h1
      · exact h.new i h1
      · exact .inr (Nat.le_trans h.size h1)⟩
theorem OnlyRow.below {W W' : World} (h : Below W.heap.size W W') (v : Value) : OnlyRow W W' v v := ⟨h.size, fun k hk _ => h.block k hk, fun k hk => .inl hk⟩
theorem OnlyRow.grown {W W' : World} {v v' : Value} (hg : W.grownBy W' v.ownBlock) (hat : v'.ownBlock = v.ownBlock ∨ ∃ b, v'.ownBlock = some b ∧ W.heap.size ≤ b) : OnlyRow W W' v v' :=
  ⟨hg.size, fun k hk hne => hg.block k hk hne, fun k hk => by
    rcases hat with h | ⟨b, h, hb⟩
    · exact .inl (h ▸ hk)
    · rw [h] at hk; cases hk; exact .inr hb⟩
theorem OnlyRow.keep {W W' : World} {v v' : Value} (h : OnlyRow W W' v v') {k : Nat} {o : Obj} (hk : W.heap[k]? = some o) (hne : some k ≠ v.ownBlock) : W'.heap[k]? = some o := (h.same k (blk_lt hk) hne).trans hk
theorem take_take_append {α : Type} (X Y : List α) (m : Nat) : (X.take m ++ Y).take m = (X ++ Y).take m := by
  rw [List.take_append, List.take_append, List.take_take, Nat.min_self, List.length_take]
  by_cases h : X.length ≤ m
  · rw [Nat.min_eq_right h]
  · rw [Nat.min_eq_left (by omega), Nat.sub_self, show m - X.length = 0 by omega]
theorem take_le_self {α : Type} (X Y : List α) (m : Nat) (h : m ≤ X.length) : (X ++ Y).take m = X.take m := by
  rw [List.take_append, show m - X.length = 0 by omega]; simp
/-- A list of items that a call makes of what came in by w0. -/
def Items (w0 W : World) (v : Value) (l : List It) : Prop := Kd.R (Kd.fixed kIt w0) 139 W w0.heap.size (fun _ => True) v l
theorem GAt.load {W : World} {ad : Addr} {g : Ge} (h : GAt W ad g) : ∃ A1 c1 A2 c2 A3 c3, (W.cell? ad = some (.int .i64 g.f0) ∧ W.cell? ⟨ad.block, ad.off + 1, none⟩ = some (.slice A1 g.f1.length c1) ∧ W.cell? ⟨ad.block, ad.off + 2, none⟩ = some (.slice A2 g.f2.length c2) ∧ W.cell? ⟨ad.block, ad.off + 3, none⟩ = some (.slice A3 g.f3.length c3)) ∧ IsG W (.agg #[.int .i64 g.f0, .slice A1 g.f1.length c1, .slice A2 g.f2.length c2, .slice A3 g.f3.length c3]) g := by
  obtain ⟨A1, c1, A2, c2, A3, c3, e0, e1, e2, e3, r⟩ := h
  exact ⟨A1, c1, A2, c2, A3, c3, ⟨e0, e1, e2, e3⟩, A1, c1, A2, c2, A3, c3, rfl, r⟩
set_option maxRecDepth 100000 in
set_option maxHeartbeats 4000000 in
theorem items_calls (w0 : World) (g : Ge) : ∀ (v : Value) (lvl of_ : Int) (vl : Value) (l : List It) (w : World), IsG w0 v g → 0 ≤ lvl → lvl + g.bulk ≤ 4611686018427387904 → g.bulk ≤ 1073741824 → Below w0.heap.size w0 w → Items w0 w vl l → l.length ≤ 65538 →
    Calls Tryd.prog 63 #[v, .int .i64 lvl, .int .i64 of_, vl, .int .i64 65538] w fun e w' => ∃ v', e = .returned v' ∧ Items w0 w' v' ((l ++ nodes g lvl of_).take 65538) ∧ Below w0.heap.size w0 w' ∧ OnlyRow w w' vl v' := by
  induction g using Ge.ind with
  | h g ih =>
    intro v lvl of_ vl l w hv hl0 hl1 hbk hb hO hlen
    have hv' := hv
    obtain ⟨A1, c1, A2, c2, A3, c3, rfl, l1, h1, l2, h2, l3, h3⟩ := hv'
    have hbq := g.bulk_eq
    have hbl := bulks_len g.f3
    obtain ⟨Al, cl, rfl⟩ := Kd.R_slice hO
    have hu := Tryd.underlying28
    have H3 := Aside0.mk h3
    have HV := Aside0.mk hv
    have IH := Aside0.mk ih
    have HB0 := Aside0.mk hb
    have HO0 := Aside0.mk hO
    have hsz := hb.size
    clear h1 h2 h3 hv ih hb hO
    have HB := Aside0.mk (Below.refl w.heap.size w)
    by_cases hfull : 65538 ≤ l.length
    · have hf : decide ((65538 : Int) ≤ (l.length : Int)) = true := decide_eq_true (by omega)
      go_enter Tryd.func63, Tryd.ntmps63
      go_wp2_with fail
      go_ret
      refine ⟨_, rfl, ?_, HB0.out.trans (((Below.refl _ _).alloc hsz _)), OnlyRow.below (below_alloc (Below.refl _ _) _) _⟩
      rw [take_le_self _ _ _ hfull, List.take_of_length_le hlen]
      exact Kd.R_alloc HO0.out _
    · have hf : decide ((65538 : Int) ≤ (l.length : Int)) = false := decide_eq_false (by omega)
      go_enter Tryd.func63, Tryd.ntmps63
      go_wp2_with (first
        | ((with_reducible refine gate_dst (N := 5) rfl ?_); refine box_event ?hg (N := 5) ?hd (cs := #[.int .i64 g.f0, .slice A1 g.f1.length c1, .slice A2 g.f2.length c2, .slice A3 g.f3.length c3]) (t := 28) ?hr ?_; (case hd => rfl); (case hg => rfl); (case hr => first | (go_simp; done) | (go_simp; rfl)); intro gb_ hgb_ wb_ hbox_ hbb_; have GE := Aside0.mk (show w.heap.size ≤ gb_ from by rw [hgb_]; exact below_size (by repeat (first | (with_reducible first | exact HB.out | apply below_alloc | apply pw_below_drewN | apply below_drew1) | exact HB.out))); have n_ := Aside0.mk (below_step (by repeat (first | (with_reducible first | exact HB.out | apply below_alloc | apply pw_below_drewN | apply below_drew1) | exact HB.out)) hbb_); clear HB; have HB := n_; have BK := Aside0.mk hbox_; (have z0_ : wb_.cell? ⟨gb_, 0, none⟩ = some (.int .i64 g.f0) := (blk_cell BK.out 0).trans rfl; have z1_ : wb_.cell? ⟨gb_, 1, none⟩ = some (.slice A1 g.f1.length c1) := (blk_cell BK.out 1).trans rfl; have z2_ : wb_.cell? ⟨gb_, 2, none⟩ = some (.slice A2 g.f2.length c2) := (blk_cell BK.out 2).trans rfl; have z3_ : wb_.cell? ⟨gb_, 3, none⟩ = some (.slice A3 g.f3.length c3) := (blk_cell BK.out 3).trans rfl); clear n_ hbox_ hbb_ hgb_)
        | ((with_reducible refine gate_builtin (b := .append) (xs := #[.tmp 17, .tmp 22]) rfl ?_); at_builtin; refine Kd.R_append (Kd.fixed kIt w0) (w0 := w0) (w0).heap.size rfl (.tmp 17) (.tmp 22) 135 139 (.agg #[.int .i64 0, .slice none 0 0, .slice none 0 0, .slice none 0 0, .int .i64 0, .int .i64 0]) 96 rfl Tryd.underlying135 infoIt rfl (Nat.succ_pos _) (by omega) (.slice Al l.length cl) (l) (⟨g, lvl, of_⟩) ([.int .i64 g.f0, .slice A1 g.f1.length c1, .slice A2 g.f2.length c2, .slice A3 g.f3.length c3, .int .i64 lvl, .int .i64 of_]) (fun _ => True) (fun _ => False) rfl rfl ?aP (fun _ h => h.elim) ?aF ?aO ?aB ?aS ?aL ?_; (case aP => (obtain ⟨B1, d1, B2, d2, B3, d3, e_, q1, r1, q2, r2, q3, r3⟩ := HV.out; (cases e_); exact kIt_mk w0 ⟨g, lvl, of_⟩ q1 r1 q2 r2 q3 r3)); (case aF => exact (fun _ _ => trivial)); (case aO => exact Kd.R_below HO0.out HB.out); (case aB => exact HB0.out.trans (HB.out.mono hsz)); (case aS => (have := HB.out.size; omega)); (case aL => omega); intro v1_ w1_ ho_ hb_ hg_ hat_; (have OR := Aside0.mk ((OnlyRow.below HB.out _).trans (OnlyRow.grown hg_ hat_)); have n_ := Aside0.mk (blk_grown BK.out hg_ (Kd.R_ne (Kd.R_below HO0.out HB.out) BK.out (by decide))); clear BK; have BK := n_; have HO := Aside0.mk ho_; have HB1 := Aside0.mk hb_; clear n_ ho_ hb_ hg_ hat_)))
      have hmx : Tryd.prog.follows .mixedOrders = true := by kernel_rfl
      go_loopg [3, 11] g.f3.length (fun kq vl' i wr => ∃ k : Nat, k + kq = g.f3.length ∧ i = .int .i64 (k : Int) ∧ Aside0 (Items w0 wr vl' ((l ++ ⟨g, lvl, of_⟩ :: nodesL (g.f3.take k) (lvl + 1) g.f0).take 65538)) ∧ Aside0 (Below w0.heap.size w0 wr) ∧ Aside0 (OnlyRow w wr (.slice Al l.length cl) vl') ∧ Aside0 (wr.heap[gb_]? = some (.cells #[.int .i64 g.f0, .slice A1 g.f1.length c1, .slice A2 g.f2.length c2, .slice A3 g.f3.length c3] 28 (0, 0))))
      case atStart =>
        refine ⟨0, by omega, rfl, ⟨?_⟩, HB1, OR, BK⟩
        have := HO.out
        rw [List.take_zero, show nodesL [] (lvl + 1) g.f0 = [] by simp [nodesL], List.take_of_length_le (by simp; omega)]
        exact this
      case round =>
        clear HO HB1 OR BK HB HO0 HB0 GE
        obtain ⟨k, hk, rfl, HO, HB, OR, BK⟩ := hrel
        have z0_ : wr.cell? ⟨gb_, 0, none⟩ = some (.int .i64 g.f0) := (blk_cell BK.out 0).trans rfl; have z1_ : wr.cell? ⟨gb_, 1, none⟩ = some (.slice A1 g.f1.length c1) := (blk_cell BK.out 1).trans rfl; have z2_ : wr.cell? ⟨gb_, 2, none⟩ = some (.slice A2 g.f2.length c2) := (blk_cell BK.out 2).trans rfl; have z3_ : wr.cell? ⟨gb_, 3, none⟩ = some (.slice A3 g.f3.length c3) := (blk_cell BK.out 3).trans rfl
        cases gk with
        | zero =>
          have hlt : ¬ ((k : Int) < (g.f3.length : Int)) := by omega
          obtain rfl : k = g.f3.length := by omega
          go_wp2_with fail
          go_ret
          refine ⟨_, rfl, ?_, HB.out, OR.out⟩
          have := HO.out
          rwa [List.take_length, ← nodes_eq] at this
        | succ kq =>
          have hlt : k < g.f3.length := by omega
          obtain ⟨a3, ea, hG⟩ := GAt.part H3.out (k : Int) (by omega) (by omega)
          subst ea
          rw [rd_Ge_at _ _ hlt, Int.toNat_natCast] at hG
          obtain ⟨D1, d1, D2, d2, D3, d3, ⟨y0, y1, y2, y3⟩, hI⟩ := hG.load
          have hpb := bulks_mem (List.getElem_mem hlt)
          have p0 := cell_below HB.out y0
          have p1 := cell_below HB.out y1
          have p2 := cell_below HB.out y2
          have p3 := cell_below HB.out y3
          have HI := Aside0.mk hI
          clear hI hG y0 y1 y2 y3
          go_wp2_with fail
          go_still_tail 11, hmx
          change wpList _ _ _ _ _ wr.drew
          go_wp2_with fail
          refine (IH.out g.f3[k] (List.getElem_mem hlt) _ (lvl + 1) g.f0 _ _ _ HI.out (by omega) (by omega) (by omega) HB.out.drew (Kd.R_drew HO.out) (by rw [List.length_take]; omega)).mono ?_
          rintro e w2 ⟨v2, rfl, ho2, hb2, hor2⟩
          have HO2 := Aside0.mk ho2
          have HB2 := Aside0.mk hb2
          have OR2 := Aside0.mk ((OR.out.trans (OnlyRow.below (below_drew (Below.refl _ _)) _)).trans hor2)
          have BK2 := Aside0.mk (hor2.keep (show wr.drew.heap[gb_]? = _ from BK.out) (Kd.R_ne (Kd.R_drew HO.out) (show wr.drew.heap[gb_]? = _ from BK.out) (by decide)))
          clear ho2 hb2 hor2 HO HB OR BK
          go_wp2_with fail
          go_roundg kq
          case measure => omega
          case rel =>
            refine ⟨k + 1, by omega, by go_num, ⟨?_⟩, HB2, OR2, BK2⟩
            have := HO2.out
            rw [take_take_append] at this
            rw [List.take_succ_eq_append_getElem hlt, nodesL_append]
            simpa [nodesL] using this
end Go.Proofs.YtiiolhnpnlmkjaaDoor.Tree
