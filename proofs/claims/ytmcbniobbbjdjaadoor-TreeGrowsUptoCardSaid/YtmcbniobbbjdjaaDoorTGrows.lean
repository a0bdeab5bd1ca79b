/- What both Grow answer, in one word; in plain Lean. No conditions but those told. -/
import Derived.Test.YtmcbniobbbjdjaaDoorTBackSem
import Derived.Test.YtmcbniobbbjdjaaDoorTMade
namespace Go.Proofs.YtmcbniobbbjdjaaDoor.Tree
open Go.RowKit Go.Proofs.YtmcbniobbbjdjaaDoorW.PrintWords Go.Proofs.YtmcbniobbbjdjaaDoorW.PrintLast Go.Proofs.YtmcbniobbbjdjaaDoorW.PrintMore
set_option linter.unusedVariables false
set_option linter.unusedSimpArgs false
structure CN (w : World) (gn : Nat) (nc : Array Value) (u : Value) (xs : List Nd) (W : World) : Prop where
  n : W.heap[gn]? = some (.cells nc 54 (0, 0))
  U : Kd.R kNd 54 W w.heap.size (fun j => j < gn) u xs
  B : Below w.heap.size w W
section
variable {w W W' : World} {gn : Nat} {nc : Array Value} {u : Value} {xs : List Nd}
theorem CN.below (h : CN w gn nc u xs W) (hb : Below W.heap.size W W') : CN w gn nc u xs W' := ⟨blk_below h.n hb, Kd.R_below h.U hb, below_step h.B hb⟩
theorem CN.set1 {a b c : Value} (h : CN w gn #[a, b, c] u xs W) (hw : w.heap.size ≤ gn) (v : Value) : CN w gn #[a, v, c] u xs (W.setCell ⟨gn, 1, none⟩ v) :=
  ⟨by simpa using blk_set h.n 1 v, Kd.R_far (p := ⟨gn, 1, none⟩) h.U (fun k hk => by show k ≠ gn; omega) _, h.B.setCell (p := ⟨gn, 1, none⟩) hw _⟩
theorem CN.set2 {a b c : Value} (h : CN w gn #[a, b, c] u xs W) (hw : w.heap.size ≤ gn) (v : Value) : CN w gn #[a, b, v] u xs (W.setCell ⟨gn, 2, none⟩ v) :=
  ⟨by simpa using blk_set h.n 2 v, Kd.R_far (p := ⟨gn, 2, none⟩) h.U (fun k hk => by show k ≠ gn; omega) _, h.B.setCell (p := ⟨gn, 2, none⟩) hw _⟩
end
set_option maxRecDepth 100000 in
set_option maxHeartbeats 16000000 in
theorem nodesCopied_calls (A : Option Addr) (c : Nat) (l : List Nd) (w : World) (hC : Kd.C kNd w A l.length l) (hW : ndsW l ≤ 2097152) :
    Calls Tryd.prog 17 #[.slice A l.length c] w fun e w' => ∃ u, e = .returned u ∧ Kd.R kNd 54 w' w.heap.size (fun _ => True) u l ∧ Below w.heap.size w w' := by
  have HC := Aside0.mk hC
  have hl := nds_len l
  have HM := Aside0.mk (show ∀ x ∈ l, x.f1.length ≤ 2097152 ∧ x.f2.length ≤ 2097152 by
    intro x hx
    have := nds_mem hx
    omega)
  clear hC
  have hun := Tryd.underlying54
  have hmx : Tryd.prog.follows .mixedOrders = true := by kernel_rfl
  go_enter Tryd.func17, Tryd.ntmps17
  go_wp2_with fail
  go_loopg [3, 4] l.length (fun kq uu i wr => ∃ (k : Nat) (u : Value), u = uu ∧ k + kq = l.length ∧ i = .int .i64 (k : Int) ∧ Aside0 (Kd.R kNd 54 wr w.heap.size (fun _ => True) u (l.take k)) ∧ Aside0 (Below w.heap.size w wr))
  case atStart => exact ⟨0, _, rfl, by omega, rfl, ⟨Kd.R_nil _ _ _ _ _⟩, ⟨Below.refl _ _⟩⟩
  case round =>
    obtain ⟨k, u, rfl, hk, rfl, HU, HK⟩ := hrel
    cases gk with
    | zero =>
      have hlt : ¬ ((k : Int) < (l.length : Int)) := by omega
      obtain rfl : k = l.length := by omega
      rw [List.take_length] at HU
      go_wp2_with fail
      go_ret
      exact ⟨_, rfl, HU.out, HK.out⟩
    | succ kq =>
      have hlt' : (k : Int) < (l.length : Int) := by omega
      have hlt : k < l.length := by omega
      have k0 : (0 : Int) ≤ (k : Int) := by omega
      obtain ⟨a1, S1, s1, L1, l1, e1, p0, p1, p2, i1, j1, i2, j2⟩ := at_Nd HC.out (k : Int) (by omega) (by omega)
      subst e1
      have hmm := HM.out l[k] (List.getElem_mem hlt)
      rw [rd_Nd_at _ _ hlt, Int.toNat_natCast] at p0 p1 p2
      rw [rd_Nd_at _ _ hlt] at i1 j1 i2 j2
      have HTK := Aside0.mk (List.take_succ_eq_append_getElem hlt)
      obtain ⟨x, hx⟩ : ∃ x, x = l[k] := ⟨_, rfl⟩
      rw [← hx] at p0 p1 p2 i1 j1 i2 j2 hmm HTK
      obtain ⟨hm1, hm2⟩ := hmm
      obtain ⟨xs, hxs⟩ : ∃ y, y = l.take k := ⟨_, rfl⟩
      have hxl : xs.length ≤ 2097152 := by rw [hxs, List.length_take]; omega
      rw [← hxs] at HU HTK
      clear hx hxs i1 i2
      have P1 := Aside0.mk p1
      have P2 := Aside0.mk p2
      have J1 := Aside0.mk j1
      have J2 := Aside0.mk j2
      have p0' := cell_below HK.out p0
      have p1' := cell_below HK.out p1
      have p2' := cell_below HK.out p2
      clear p0 p1 p2 j1 j2
      go_wp2_with fail
      obtain ⟨gn, hgn⟩ : ∃ y, y = wr.heap.size := ⟨_, rfl⟩
      obtain ⟨W0, hW0⟩ : ∃ y, y = wr.alloc (.cells #[.int .i64 x.f0, .slice none 0 0, .slice none 0 0] 54) := ⟨_, rfl⟩
      rw [← hW0, ← hgn]
      have hb0 : Below wr.heap.size wr W0 := by rw [hW0]; exact below_alloc (Below.refl _ _) _
      have q0 : CN w gn #[.int .i64 x.f0, .slice none 0 0, .slice none 0 0] u xs W0.drew := by
        have h0 : CN w gn #[.int .i64 x.f0, .slice none 0 0, .slice none 0 0] u xs W0 := ⟨by rw [hW0, hgn]; exact World.alloc_heap_new _ _, by rw [hgn]; exact Kd.R_below (Kd.R_mono (Kd.R_bound HU.out) (fun j hj => hj.2.2.1)) hb0, below_step HK.out hb0⟩
        exact h0.below (below_drew (Below.refl _ _))
      have HUL := Aside0.mk (show ∀ j, u.ownBlock = some j → j < gn by rw [hgn]; exact Kd.R_lt HU.out)
      have hwg : w.heap.size ≤ gn := by rw [hgn]; exact HK.out.size
      clear hb0 hW0 hgn HU HK p0' p1' p2'
      refine start_ (n := 10) (S := fun w' => w'.cell? ⟨gn, 1, none⟩ = some (.slice none 0 0) ∧ w'.cell? ⟨(a1.add (k * 3)).block, (a1.add (k * 3)).off + 1, none⟩ = some (.slice S1 x.f1.length s1) ∧ True) (ds := [9]) #[false, false, false, false, false, false, false, false, false, false] hmx rfl rfl ⟨(blk_cell q0.n 1).trans rfl, cell_below q0.B P1.out, trivial⟩ (fun hHeld => ?_)
      generalize W0.drew = Wb at q0 hHeld ⊢
      (refine pure_ (i := 0) (N := some 18) (v := ?_) (a' := ?_) #[true, false, false, false, false, false, false, false, false, false] rfl rfl (by kernel_rfl) (fun _ _ _ h => h) (Or.inl ⟨by rfl, ?_⟩) ?_ ?_; rotate_left; (focus (intro w'_; go_simp; with_reducible rfl)); rotate_left; (focus (simp only [Act.put, List.setIfInBounds_toArray, List.set_cons_zero, List.set_cons_succ]; rfl)))
      (refine pure_ (i := 2) (N := some 20) (v := ?_) (a' := ?_) #[true, false, true, false, false, false, false, false, false, false] rfl rfl (by kernel_rfl) (fun _ _ _ h => h) (Or.inl ⟨by rfl, ?_⟩) ?_ ?_; rotate_left; (focus (intro w'_; go_simp; with_reducible rfl)); rotate_left; (focus (simp only [Act.put, List.setIfInBounds_toArray, List.set_cons_zero, List.set_cons_succ]; rfl)))
      (refine pure_ (i := 3) (N := some 21) (v := ?_) (a' := ?_) #[true, false, true, true, false, false, false, false, false, false] rfl rfl (by kernel_rfl) (fun _ _ _ h => h) (Or.inl ⟨by rfl, ?_⟩) ?_ ?_; rotate_left; (focus (intro w'_; go_simp; with_reducible rfl)); rotate_left; (focus (simp only [Act.put, List.setIfInBounds_toArray, List.set_cons_zero, List.set_cons_succ]; rfl)))
      (refine pure_ (i := 4) (N := some 22) (v := ?_) (a' := ?_) #[true, false, true, true, true, false, false, false, false, false] rfl rfl (by kernel_rfl) (fun _ _ _ h => h) (Or.inl ⟨by rfl, ?_⟩) ?_ ?_; rotate_left; (focus (intro w'_; go_simp; with_reducible rfl)); rotate_left; (focus (simp only [Act.put, List.setIfInBounds_toArray, List.set_cons_zero, List.set_cons_succ]; rfl)))
      (refine pure_ (i := 5) (N := some 23) (v := ?_) (a' := ?_) #[true, false, true, true, true, true, false, false, false, false] rfl rfl (by kernel_rfl) (fun _ _ _ h => h) (Or.inl ⟨by rfl, ?_⟩) ?_ ?_; rotate_left; (focus (intro w'_; go_simp; with_reducible rfl)); rotate_left; (focus (simp only [Act.put, List.setIfInBounds_toArray, List.set_cons_zero, List.set_cons_succ]; rfl)))
      (refine take_ (i := 1) (N := some 19) (v := ?_) (a' := ?_) #[true, true, true, true, true, true, false, false, false, false] rfl rfl (by kernel_rfl) (fun _ _ _ h => h) (Or.inl ⟨by rfl, ?_⟩) hHeld ?_ ?_; rotate_left; (focus (intro w'_ hs_; (repeat obtain ⟨_, hs_⟩ := hs_); go_simp; with_reducible rfl)); rotate_left; (focus (simp only [Act.put, List.setIfInBounds_toArray, List.set_cons_zero, List.set_cons_succ]; rfl)))
      (refine take_ (i := 6) (N := some 24) (v := ?_) (a' := ?_) #[true, true, true, true, true, true, true, false, false, false] rfl rfl (by kernel_rfl) (fun _ _ _ h => h) (Or.inl ⟨by rfl, ?_⟩) hHeld ?_ ?_; rotate_left; (focus (intro w'_ hs_; (repeat obtain ⟨_, hs_⟩ := hs_); go_simp; with_reducible rfl)); rotate_left; (focus (simp only [Act.put, List.setIfInBounds_toArray, List.set_cons_zero, List.set_cons_succ]; rfl)))
      refine one_ (i := 7) (N := some 25) #[true, true, true, true, true, true, true, true, false, false] rfl rfl (by kernel_rfl) (by decide) (fun K hK => ?_)
      refine Kd.R_append_rows_step (Kd.int .i64) (w0 := Wb) Wb.heap.size (by rfl) (.tmp 19) (.tmp 24) 52 3 (.int .i64 0) 8 rfl Tryd.underlying52 infoI rfl (by decide) (by omega) (.slice none 0 0) [] x.f1 _ _ _ (fun _ => True) (fun _ => False) rfl rfl ?aO ?aR (fun _ _ h => h) (fun _ h => h.elim) ?aF ?aB ?aS ?aL ?_
      case aO => exact Kd.R_nil _ _ _ _ _
      case aR => exact Kd.C_below J1.out q0.B
      case aF => exact fun _ _ => trivial
      case aB => exact Below.refl _ _
      case aS => exact Nat.le_refl _
      case aL => show (0 + x.f1.length) * 8 ≤ _; omega
      intro vr w1 ho hb1 hg1 hat1
      rw [List.nil_append] at ho
      obtain ⟨A5, c5, e5⟩ := Kd.R_slice ho
      subst e5
      have q1 := q0.below hb1
      have hgz := blk_lt q0.n
      have ho1 := Kd.R_lower (base' := w.heap.size) (Kd.R_mono (Kd.R_bound ho) (fun j h => (by have := h.2.1; omega : gn < j))) (by omega)
      clear q0 hg1 hat1 hb1 ho
      refine hK.out _ _ ⟨(blk_cell q1.n 1).trans rfl, cell_below q1.B P1.out, trivial⟩ (fun hHeld2 => ?_)
      clear hK K hHeld
      (refine norm_ (a' := ?_) ?_ ?_; rotate_left; focus (show Act.put _ (some 25) _ = _; simp only [Act.put, List.setIfInBounds_toArray, List.set_cons_zero, List.set_cons_succ]; rfl))
      (refine pure_ (i := 8) (N := some 26) (v := ?_) (a' := ?_) #[true, true, true, true, true, true, true, true, true, false] rfl rfl (by kernel_rfl) (fun _ _ _ h => h) (Or.inl ⟨by rfl, ?_⟩) ?_ ?_; rotate_left; (focus (intro w'_; go_simp; with_reducible rfl)); rotate_left; (focus (simp only [Act.put, List.setIfInBounds_toArray, List.set_cons_zero, List.set_cons_succ]; rfl)))
      refine last_ (i := 9) (N := none) #[true, true, true, true, true, true, true, true, true, true] rfl rfl (by kernel_rfl) (by decide) (fun K hK => ?_)
      have hs0 : w1.cell? ⟨gn, 1, none⟩ = some (.slice none 0 0) := (blk_cell q1.n 1).trans rfl
      have hf0 := blk_frozen q1.n 1
      refine skip_ (w1 := ?_) (by rfl) rfl ?_ ?_
      rotate_left
      · go_simp
        rfl
      refine hK.out _ _ ?_
      clear hK K
      refine done_ (by kernel_rfl) ?_
      have q2 := q1.set1 hwg (.slice A5 x.f1.length c5)
      have ho2 := Kd.R_far (p := ⟨gn, 1, none⟩) ho1 (fun j h => by show j ≠ gn; omega) (.slice A5 x.f1.length c5)
      clear q1 ho1 hs0 hf0 hHeld2 hgz
      obtain ⟨W1, hW1⟩ : ∃ y, y = w1.setCell ⟨gn, 1, none⟩ (.slice A5 x.f1.length c5) := ⟨_, rfl⟩
      rw [← hW1] at q2 ho2 ⊢
      clear hW1
      have R1 := Aside0.mk ho2
      have Q1 := Aside0.mk q2
      clear q2 ho2
      go_wp2_with fail
      have q0 := Q1.out.below (below_drew (Below.refl _ _))
      have r0 := Kd.R_drew R1.out
      clear Q1 R1
      refine start_ (n := 10) (S := fun w' => w'.cell? ⟨gn, 2, none⟩ = some (.slice none 0 0) ∧ w'.cell? ⟨(a1.add (k * 3)).block, (a1.add (k * 3)).off + 2, none⟩ = some (.slice L1 x.f2.length l1) ∧ True) (ds := [9]) #[false, false, false, false, false, false, false, false, false, false] hmx rfl rfl ⟨(blk_cell q0.n 2).trans rfl, cell_below q0.B P2.out, trivial⟩ (fun hHeld => ?_)
      generalize W1.drew = Wb at q0 r0 hHeld ⊢
      (refine pure_ (i := 0) (N := some 27) (v := ?_) (a' := ?_) #[true, false, false, false, false, false, false, false, false, false] rfl rfl (by kernel_rfl) (fun _ _ _ h => h) (Or.inl ⟨by rfl, ?_⟩) ?_ ?_; rotate_left; (focus (intro w'_; go_simp; with_reducible rfl)); rotate_left; (focus (simp only [Act.put, List.setIfInBounds_toArray, List.set_cons_zero, List.set_cons_succ]; rfl)))
      (refine pure_ (i := 2) (N := some 29) (v := ?_) (a' := ?_) #[true, false, true, false, false, false, false, false, false, false] rfl rfl (by kernel_rfl) (fun _ _ _ h => h) (Or.inl ⟨by rfl, ?_⟩) ?_ ?_; rotate_left; (focus (intro w'_; go_simp; with_reducible rfl)); rotate_left; (focus (simp only [Act.put, List.setIfInBounds_toArray, List.set_cons_zero, List.set_cons_succ]; rfl)))
      (refine pure_ (i := 3) (N := some 30) (v := ?_) (a' := ?_) #[true, false, true, true, false, false, false, false, false, false] rfl rfl (by kernel_rfl) (fun _ _ _ h => h) (Or.inl ⟨by rfl, ?_⟩) ?_ ?_; rotate_left; (focus (intro w'_; go_simp; with_reducible rfl)); rotate_left; (focus (simp only [Act.put, List.setIfInBounds_toArray, List.set_cons_zero, List.set_cons_succ]; rfl)))
      (refine pure_ (i := 4) (N := some 31) (v := ?_) (a' := ?_) #[true, false, true, true, true, false, false, false, false, false] rfl rfl (by kernel_rfl) (fun _ _ _ h => h) (Or.inl ⟨by rfl, ?_⟩) ?_ ?_; rotate_left; (focus (intro w'_; go_simp; with_reducible rfl)); rotate_left; (focus (simp only [Act.put, List.setIfInBounds_toArray, List.set_cons_zero, List.set_cons_succ]; rfl)))
      (refine pure_ (i := 5) (N := some 32) (v := ?_) (a' := ?_) #[true, false, true, true, true, true, false, false, false, false] rfl rfl (by kernel_rfl) (fun _ _ _ h => h) (Or.inl ⟨by rfl, ?_⟩) ?_ ?_; rotate_left; (focus (intro w'_; go_simp; with_reducible rfl)); rotate_left; (focus (simp only [Act.put, List.setIfInBounds_toArray, List.set_cons_zero, List.set_cons_succ]; rfl)))
      (refine take_ (i := 1) (N := some 28) (v := ?_) (a' := ?_) #[true, true, true, true, true, true, false, false, false, false] rfl rfl (by kernel_rfl) (fun _ _ _ h => h) (Or.inl ⟨by rfl, ?_⟩) hHeld ?_ ?_; rotate_left; (focus (intro w'_ hs_; (repeat obtain ⟨_, hs_⟩ := hs_); go_simp; with_reducible rfl)); rotate_left; (focus (simp only [Act.put, List.setIfInBounds_toArray, List.set_cons_zero, List.set_cons_succ]; rfl)))
      (refine take_ (i := 6) (N := some 33) (v := ?_) (a' := ?_) #[true, true, true, true, true, true, true, false, false, false] rfl rfl (by kernel_rfl) (fun _ _ _ h => h) (Or.inl ⟨by rfl, ?_⟩) hHeld ?_ ?_; rotate_left; (focus (intro w'_ hs_; (repeat obtain ⟨_, hs_⟩ := hs_); go_simp; with_reducible rfl)); rotate_left; (focus (simp only [Act.put, List.setIfInBounds_toArray, List.set_cons_zero, List.set_cons_succ]; rfl)))
      refine one_ (i := 7) (N := some 34) #[true, true, true, true, true, true, true, true, false, false] rfl rfl (by kernel_rfl) (by decide) (fun K hK => ?_)
      refine Kd.R_append_rows_step (kPt) (w0 := Wb) Wb.heap.size (by rfl) (.tmp 28) (.tmp 33) 22 65 (.agg #[.int .u64 0, .int .u64 0]) 16 rfl Tryd.underlying22 infoPt rfl (by decide) (by omega) (.slice none 0 0) [] x.f2 _ _ _ (fun _ => True) (fun _ => False) rfl rfl ?aO ?aR (fun _ _ h => h) (fun _ h => h.elim) ?aF ?aB ?aS ?aL ?_
      case aO => exact Kd.R_nil _ _ _ _ _
      case aR => exact Kd.C_below J2.out q0.B
      case aF => exact fun _ _ => trivial
      case aB => exact Below.refl _ _
      case aS => exact Nat.le_refl _
      case aL => show (0 + x.f2.length) * 16 ≤ _; omega
      intro vr w1 ho hb1 hg1 hat1
      rw [List.nil_append] at ho
      obtain ⟨A6, c6, e6⟩ := Kd.R_slice ho
      subst e6
      have q1 := q0.below hb1
      have hgz := blk_lt q0.n
      have ho1 := Kd.R_lower (base' := w.heap.size) (Kd.R_mono (Kd.R_bound ho) (fun j h => (by have := h.2.1; omega : gn < j))) (by omega)
      have r1 := Kd.R_below r0 hb1
      clear q0 r0 hg1 hat1 hb1 ho
      refine hK.out _ _ ⟨(blk_cell q1.n 2).trans rfl, cell_below q1.B P2.out, trivial⟩ (fun hHeld2 => ?_)
      clear hK K hHeld
      (refine norm_ (a' := ?_) ?_ ?_; rotate_left; focus (show Act.put _ (some 34) _ = _; simp only [Act.put, List.setIfInBounds_toArray, List.set_cons_zero, List.set_cons_succ]; rfl))
      (refine pure_ (i := 8) (N := some 35) (v := ?_) (a' := ?_) #[true, true, true, true, true, true, true, true, true, false] rfl rfl (by kernel_rfl) (fun _ _ _ h => h) (Or.inl ⟨by rfl, ?_⟩) ?_ ?_; rotate_left; (focus (intro w'_; go_simp; with_reducible rfl)); rotate_left; (focus (simp only [Act.put, List.setIfInBounds_toArray, List.set_cons_zero, List.set_cons_succ]; rfl)))
      refine last_ (i := 9) (N := none) #[true, true, true, true, true, true, true, true, true, true] rfl rfl (by kernel_rfl) (by decide) (fun K hK => ?_)
      have hs0 : w1.cell? ⟨gn, 2, none⟩ = some (.slice none 0 0) := (blk_cell q1.n 2).trans rfl
      have hf0 := blk_frozen q1.n 2
      refine skip_ (w1 := ?_) (by rfl) rfl ?_ ?_
      rotate_left
      · go_simp
        rfl
      refine hK.out _ _ ?_
      clear hK K
      refine done_ (by kernel_rfl) ?_
      have q2 := q1.set2 hwg (.slice A6 x.f2.length c6)
      have ho2 := Kd.R_far (p := ⟨gn, 2, none⟩) ho1 (fun j h => by show j ≠ gn; omega) (.slice A6 x.f2.length c6)
      have r2 := Kd.R_far (p := ⟨gn, 2, none⟩) r1 (fun j h => by show j ≠ gn; omega) (.slice A6 x.f2.length c6)
      clear q1 ho1 r1 hs0 hf0 hHeld2 hgz
      obtain ⟨W2, hW2⟩ : ∃ y, y = w1.setCell ⟨gn, 2, none⟩ (.slice A6 x.f2.length c6) := ⟨_, rfl⟩
      rw [← hW2] at q2 ho2 r2 ⊢
      clear hW2
      have n0 : W2.cell? ⟨gn, 0, none⟩ = some (.int .i64 x.f0) := (blk_cell q2.n 0).trans rfl
      have n1 : W2.cell? ⟨gn, 1, none⟩ = some (.slice A5 x.f1.length c5) := (blk_cell q2.n 1).trans rfl
      have n2 : W2.cell? ⟨gn, 2, none⟩ = some (.slice A6 x.f2.length c6) := (blk_cell q2.n 2).trans rfl
      have HMK := Aside0.mk (show kNd.M W2 w.heap.size (fun j => gn < j) x [.int .i64 x.f0, .slice A5 x.f1.length c5, .slice A6 x.f2.length c6] from kNd_mkM W2 _ _ x r2 ho2)
      have RR := Aside0.mk q2
      clear r2 ho2 q2
      go_wp2_with ((with_reducible refine gate_builtin (b := .append) (xs := #[.tmp 36, .tmp 38]) rfl ?_); at_builtin; refine Kd.R_append kNd (w0 := w) w.heap.size rfl (.tmp 36) (.tmp 38) 37 54 (.agg #[.int .i64 0, .slice none 0 0, .slice none 0 0]) 56 rfl Tryd.underlying37 infoNd rfl (Nat.succ_pos _) (by omega) u xs x [.int .i64 x.f0, .slice A5 x.f1.length c5, .slice A6 x.f2.length c6] (fun _ => True) (fun j => gn < j) rfl rfl ?aP ?aK ?aF ?aO ?aB ?aS ?aL ?_; (case aP => exact HMK.out); (case aK => exact fun j h => ⟨trivial, fun e => by have := HUL.out j e.symm; omega⟩); (case aF => exact fun _ _ => trivial); (case aO => exact Kd.R_mono RR.out.U (fun _ _ => trivial)); (case aB => exact RR.out.B); (case aS => exact RR.out.B.size); (case aL => omega); intro u2 W7 ho7 hb7 hg7 hat7; have HO7 := Aside0.mk ho7; have HB7 := Aside0.mk hb7; obtain ⟨AU2, cU2, eU2⟩ := Kd.R_slice ho7; rw [List.length_append, List.length_singleton] at eU2; subst eU2; clear ho7 hb7 hg7 hat7)
      go_roundg kq
      case measure => omega
      case rel => exact ⟨k + 1, _, rfl, by omega, by go_num, ⟨by rw [HTK.out]; exact HO7.out⟩, HB7⟩
end Go.Proofs.YtmcbniobbbjdjaaDoor.Tree
namespace Go.Proofs.YtmcbniobbbjdjaaDoor.Tree
open Go.RowKit Go.Proofs.YtmcbniobbbjdjaaDoorW.PrintWords Go.Proofs.YtmcbniobbbjdjaaDoorW.PrintLast Go.Proofs.YtmcbniobbbjdjaaDoorW.PrintMore
set_option linter.unusedVariables false
set_option linter.unusedSimpArgs false
theorem check_code {g : Ge} {er : Int × Int} (hck : checkR g = some er) : codeOf (some er) ≠ 0 := by
  have h : ∀ (l : List It) (k n : Nat) (e : Int × Int), scanC k n l = some e → e.2 ≠ 0 := by
    intro l
    induction l with
    | nil => intro k n e h; cases h
    | cons y l ih =>
      intro k n e h
      rw [scanC_cons] at h
      split at h
      · exact ih _ _ e h
      · rename_i h0; cases h; exact h0
  exact h _ _ _ er hck
theorem ndsW_take (l : List Nd) (k : Nat) : ndsW (l.take k) ≤ ndsW l := by
  have h3 : ndsW l = ndsW (l.take k) + ndsW (l.drop k) := by rw [← ndsW_append, List.take_append_drop]
  omega
set_option maxRecDepth 100000 in
set_option maxHeartbeats 16000000 in
theorem rgrow_calls (A : Option Addr) (c : Nat) (l : List Nd) (w : World) (hC : Kd.C kNd w A l.length l) (hcap : l.length ≤ c) (hW : ndsW l ≤ 2097152) :
    Calls Tryd.prog 19 #[.slice A l.length c] w fun e w' => ∃ (u : Value) (x : Option (Int × Int)), e = .returned (.tuple #[u, .int .i64 (codeOf x), .int .i64 (placeOf x)]) ∧ RGrowRes w w' l u x ∧ Below w.heap.size w w' := by
  have hl := nds_len l
  have HC := Aside0.mk hC
  have HWL := Aside0.mk hW
  have hll : l.length ≤ 2097152 := by omega
  clear hC hW hl
  have hu := Tryd.underlying26
  have hun := Tryd.underlying54
  have hmx : Tryd.prog.follows .mixedOrders = true := by kernel_rfl
  go_enter Tryd.func19, Tryd.ntmps19
  go_wp2_with fail
  obtain ⟨gr, hgr⟩ : ∃ y, y = w.heap.size := ⟨_, rfl⟩
  obtain ⟨W0, hW0⟩ : ∃ y, y = w.alloc (.cells #[.int .i64 0, .slice none 0 0, .slice none 0 0, .slice none 0 0] 26) := ⟨_, rfl⟩
  rw [← hW0, ← hgr]
  have KR := Aside0.mk (show W0.heap[gr]? = some (.cells #[.int .i64 0, .slice none 0 0, .slice none 0 0, .slice none 0 0] 26 (0, 0)) by rw [hW0, hgr]; exact World.alloc_heap_new _ _)
  have HB := Aside0.mk (show Below w.heap.size w W0 by rw [hW0]; exact below_alloc (Below.refl _ _) _)
  have HGR := Aside0.mk (show w.heap.size ≤ gr by omega)
  clear hW0 hgr
  go_loopg [5] l.length (fun kq i wr => ∃ k : Nat, k + kq = l.length ∧ i = .int .i64 (k : Int) ∧ Aside0 (∀ x ∈ l.take k, soundB x = true) ∧ Aside0 (wr.heap[gr]? = some (.cells #[.int .i64 0, .slice none 0 0, .slice none 0 0, .slice none 0 0] 26 (0, 0))) ∧ Aside0 (Below w.heap.size w wr))
  case atStart => exact ⟨0, by omega, rfl, ⟨fun x h => by cases h⟩, KR, HB⟩
  case round =>
    clear KR HB
    obtain ⟨k, hk, rfl, HTS, KR, HB⟩ := hrel
    have hkl : k ≤ l.length := by omega
    have hka : (k : Int) ≤ (l.length : Int) := by omega
    have hkc : (k : Int) ≤ (c : Int) := by omega
    obtain ⟨T, hT⟩ : ∃ T, T = l.take k := ⟨_, rfl⟩
    have HTL := Aside0.mk (show T.length = k by rw [hT, List.length_take]; omega)
    have HTW := Aside0.mk (show ndsW T ≤ 2097152 by have := ndsW_take l k; rw [hT]; have := HWL.out; omega)
    have HTC := Aside0.mk (show Kd.C kNd w A T.length T by
      rw [hT]
      exact Kd.C_take HC.out hkl)
    rw [← hT] at HTS
    have HT := Aside0.mk hT
    clear hT
    cases gk with
    | zero =>
      have hlt : ¬ ((k : Int) < (l.length : Int)) := by omega
      have HEND := Aside0.mk (show ∀ h : k < l.length, soundB l[k] = false from fun h => by omega)
      have HMC := Aside0.mk (made_calls T HTS.out HTW.out w A c HTC.out T.length 0 wr HB.out (Nat.zero_le _) (by omega))
      rw [HTL.out] at HMC
      go_wp2_with fail
      refine (show Calls Tryd.prog 42 #[.slice A k c, .int .i64 0] wr _ from HMC.out).mono ?_
      rintro e w4 ⟨u, kv, vb, rfl, hres, hb4⟩
      have KR4 := Aside0.mk (blk_below KR.out hb4)
      have HB4 := Aside0.mk (below_step HB.out hb4)
      have HBX := Aside0.mk (show w.heap.size ≤ wr.heap.size ∧ gr < wr.heap.size from ⟨HB.out.size, blk_lt KR.out⟩)
      clear hb4 KR HB HMC
      rcases hres with ⟨rfl, g, r, hcan, hdrop, rfl, hcp⟩ | ⟨rfl, hu0, rfl, hno⟩
      · obtain ⟨cs, rfl, hM⟩ := hcp
        obtain ⟨E1, e1, E2, e2, E3, e3, rfl, _⟩ := kGe_open (kSp_K _ ((kSp _).K_of_M hM))
        have HM4 := Aside0.mk hM
        have HCG := Aside0.mk hcan
        rw [List.drop_zero] at hdrop
        have HDG := Aside0.mk hdrop
        have hFl : (flatN g).length ≤ k := by have h := congrArg List.length hdrop; rw [List.length_append, HTL.out] at h; omega
        obtain ⟨F, hF⟩ : ∃ y, y = (flatN g).length := ⟨_, rfl⟩
        rw [← hF] at hFl
        rw [Nat.zero_add, ← hF]
        have HF := Aside0.mk hF
        clear hM hcan hdrop hF
        go_upto_region 5 with fail
        obtain ⟨gp, hgp⟩ : ∃ y, y = w4.heap.size := ⟨_, rfl⟩
        obtain ⟨W5, hW5⟩ : ∃ y, y = w4.alloc (.cells #[.int .i64 g.f0, .slice E1 g.f1.length e1, .slice E2 g.f2.length e2, .slice E3 g.f3.length e3] 26) := ⟨_, rfl⟩
        rw [← hW5, ← hgp]
        have hb5 : Below w4.heap.size w4 W5 := by rw [hW5]; exact below_alloc (Below.refl _ _) _
        have KP := Aside0.mk (show W5.heap[gp]? = some (.cells #[.int .i64 g.f0, .slice E1 g.f1.length e1, .slice E2 g.f2.length e2, .slice E3 g.f3.length e3] 26 (0, 0)) by rw [hW5, hgp]; exact World.alloc_heap_new _ _)
        have KR5 := Aside0.mk (blk_below KR4.out hb5)
        have HB5 := Aside0.mk (below_step HB4.out hb5)
        have HM5 := Aside0.mk (Kd.M_below HM4.out hb5)
        clear hW5 hgp hb5 KR4 HB4 HM4
        by_cases hend : F < l.length
        · have hend' : (F : Int) < (l.length : Int) := by omega
          have HGE := Aside0.mk (show growE 1 0 l = some F by
            have h := grow_ends (l := l) (k := k) HCG.out (by rw [← HT.out]; exact HDG.out) (by rw [← HF.out]; exact hend)
            rw [← HF.out] at h
            exact h)
          clear hend
          have r0 : W5.cell? ⟨gr, 0, none⟩ = some (.int .i64 0) := (blk_cell KR5.out 0).trans rfl
          have t0 := blk_frozen KR5.out 0
          have r1 : W5.cell? ⟨gr, 1, none⟩ = some (.slice none 0 0) := (blk_cell KR5.out 1).trans rfl
          have t1 := blk_frozen KR5.out 1
          have r2 : W5.cell? ⟨gr, 2, none⟩ = some (.slice none 0 0) := (blk_cell KR5.out 2).trans rfl
          have t2 := blk_frozen KR5.out 2
          have r3 : W5.cell? ⟨gr, 3, none⟩ = some (.slice none 0 0) := (blk_cell KR5.out 3).trans rfl
          have t3 := blk_frozen KR5.out 3
          go_wp2_with fail
          have bk := (blk_set (blk_set (blk_set (blk_set KR5.out 0 (.int .i64 0)) 1 (.slice none 0 0)) 2 (.slice none 0 0)) 3 (.slice none 0 0))
          refine bodyPost_ret (results_geom3 (a := 2) (c := 3) (d := 4) (by rfl) _ _ (by rfl) (by simpa using bk)) rfl ?_
          exact ⟨_, some ((F : Int), 154), rfl, .bad HGE.out rfl, ((((HB5.out.setCell (p := ⟨gr, 0, none⟩) HGR.out _).setCell (p := ⟨gr, 1, none⟩) HGR.out _).setCell (p := ⟨gr, 2, none⟩) HGR.out _).setCell (p := ⟨gr, 3, none⟩) HGR.out _)⟩
        · have hend' : ¬ ((F : Int) < (l.length : Int)) := by omega
          have HFL := Aside0.mk (show flatN g = l by
            have hk2 : k = l.length := by have := hkl; omega
            have h1 : l.take k = l := by rw [hk2, List.take_length]
            have h2 := HDG.out
            rw [HT.out, h1] at h2
            have h3 := congrArg List.length h2
            rw [List.length_append, ← HF.out] at h3
            have : r = [] := List.length_eq_zero_iff.1 (by omega)
            rw [this, List.append_nil] at h2
            exact h2.symm)
          have HGN := Aside0.mk (show growE 1 0 l = none by rw [← HFL.out]; exact growE_ok HCG.out)
          have hbk : g.bulk ≤ 2097152 := by have h := canon_W HCG.out; rw [HFL.out] at h; have := HWL.out; omega
          clear hend
          have b0 : W5.cell? ⟨gp, 0, none⟩ = some (.int .i64 g.f0) := (blk_cell KP.out 0).trans rfl
          have b1 : W5.cell? ⟨gp, 1, none⟩ = some (.slice E1 g.f1.length e1) := (blk_cell KP.out 1).trans rfl
          have b2 : W5.cell? ⟨gp, 2, none⟩ = some (.slice E2 g.f2.length e2) := (blk_cell KP.out 2).trans rfl
          have b3 : W5.cell? ⟨gp, 3, none⟩ = some (.slice E3 g.f3.length e3) := (blk_cell KP.out 3).trans rfl
          go_wp2_with fail
          refine (rcheck_calls _ g W5 (IsG.of (kSp_K _ ((kSp _).K_of_M HM5.out))) (by omega)).mono ?_
          rintro e W6 ⟨rfl, hb6⟩
          have KR6 := Aside0.mk (blk_below KR5.out hb6)
          have KP6 := Aside0.mk (blk_below KP.out hb6)
          have HB6 := Aside0.mk (below_step HB5.out hb6)
          have HM6 := Aside0.mk (Kd.M_below HM5.out hb6)
          clear hb6 KR5 KP HB5 HM5 b0 b1 b2 b3
          have b0 : W6.cell? ⟨gp, 0, none⟩ = some (.int .i64 g.f0) := (blk_cell KP6.out 0).trans rfl
          have b1 : W6.cell? ⟨gp, 1, none⟩ = some (.slice E1 g.f1.length e1) := (blk_cell KP6.out 1).trans rfl
          have b2 : W6.cell? ⟨gp, 2, none⟩ = some (.slice E2 g.f2.length e2) := (blk_cell KP6.out 2).trans rfl
          have b3 : W6.cell? ⟨gp, 3, none⟩ = some (.slice E3 g.f3.length e3) := (blk_cell KP6.out 3).trans rfl
          have r0 : W6.cell? ⟨gr, 0, none⟩ = some (.int .i64 0) := (blk_cell KR6.out 0).trans rfl
          have t0 := blk_frozen KR6.out 0
          have r1 : W6.cell? ⟨gr, 1, none⟩ = some (.slice none 0 0) := (blk_cell KR6.out 1).trans rfl
          have t1 := blk_frozen KR6.out 1
          have r2 : W6.cell? ⟨gr, 2, none⟩ = some (.slice none 0 0) := (blk_cell KR6.out 2).trans rfl
          have t2 := blk_frozen KR6.out 2
          have r3 : W6.cell? ⟨gr, 3, none⟩ = some (.slice none 0 0) := (blk_cell KR6.out 3).trans rfl
          have t3 := blk_frozen KR6.out 3
          cases hck : checkR g with
          | some er =>
            have hne := check_code hck
            have HRR := Aside0.mk (show ∀ W', RGrowRes w W' l noGe (checkR g) by
              intro W'
              unfold RGrowRes
              rw [HGN.out]
              refine ⟨g, HFL.out, HCG.out, rfl, ?_⟩
              rw [hck])
            rw [hck] at HRR
            clear hck
            obtain ⟨cd, hcd⟩ : ∃ x, x = codeOf (some er) := ⟨_, rfl⟩
            obtain ⟨pl, hpl⟩ : ∃ x, x = placeOf (some er) := ⟨_, rfl⟩
            rw [← hcd] at hne ⊢
            rw [← hpl]
            have HCD := Aside0.mk (And.intro hcd hpl)
            have q0 : (cd == 0) = false := beq_eq_false_iff_ne.mpr hne
            have q1 : (cd != 0) = true := bne_iff_ne.mpr hne
            clear hcd hpl hne
            go_wp2_with fail
            have bk := (blk_set (blk_set (blk_set (blk_set KR6.out 0 (.int .i64 0)) 1 (.slice none 0 0)) 2 (.slice none 0 0)) 3 (.slice none 0 0))
            refine bodyPost_ret (results_geom3 (a := 2) (c := 3) (d := 4) (by rfl) _ _ (by rfl) (by simpa using bk)) rfl ?_
            refine ⟨_, some er, ?_, HRR.out _, ((((HB6.out.setCell (p := ⟨gr, 0, none⟩) HGR.out _).setCell (p := ⟨gr, 1, none⟩) HGR.out _).setCell (p := ⟨gr, 2, none⟩) HGR.out _).setCell (p := ⟨gr, 3, none⟩) HGR.out _)⟩
            rw [← HCD.out.1, ← HCD.out.2]
            rfl
          | none =>
            have HCK := Aside0.mk hck
            clear hck
            have hcz : codeOf (none : Option (Int × Int)) = 0 := rfl
            have hpz : placeOf (none : Option (Int × Int)) = -1 := rfl
            rw [hcz, hpz]
            clear hcz hpz
            go_wp2_with fail
            have bk := (blk_set (blk_set (blk_set (blk_set KR6.out 0 (.int .i64 g.f0)) 1 (.slice E1 g.f1.length e1)) 2 (.slice E2 g.f2.length e2)) 3 (.slice E3 g.f3.length e3))
            refine bodyPost_ret (results_geom3 (a := 2) (c := 3) (d := 4) (by rfl) _ _ (by rfl) (by simpa using bk)) rfl ?_
            refine ⟨_, none, rfl, ?_, ((((HB6.out.setCell (p := ⟨gr, 0, none⟩) HGR.out _).setCell (p := ⟨gr, 1, none⟩) HGR.out _).setCell (p := ⟨gr, 2, none⟩) HGR.out _).setCell (p := ⟨gr, 3, none⟩) HGR.out _)⟩
            unfold RGrowRes
            rw [HGN.out]
            refine ⟨g, HFL.out, HCG.out, HCK.out.symm, ?_⟩
            rw [HCK.out]
            obtain ⟨hx1, hx2⟩ := HBX.out
            refine ⟨k, CopyOf.lower (w := wr) ⟨_, rfl, ?_⟩ hx1⟩
            exact Kd.M_far (p := ⟨gr, 3, none⟩) (Kd.M_far (p := ⟨gr, 2, none⟩) (Kd.M_far (p := ⟨gr, 1, none⟩) (Kd.M_far (p := ⟨gr, 0, none⟩) HM6.out (fun j h => by show j ≠ gr; omega) _) (fun j h => by show j ≠ gr; omega) _) (fun j h => by show j ≠ gr; omega) _) (fun j h => by show j ≠ gr; omega) _
      · have hu2 : u = .agg #[.int .i64 0, .slice none 0 0, .slice none 0 0, .slice none 0 0] := hu0
        clear hu0
        subst hu2
        have HGE := Aside0.mk (show growE 1 0 l = some k from grow_lacks hkl (by rw [← HT.out]; exact HTS.out) (by rw [← HT.out]; intro g r hg h; exact hno g r hg (by rw [List.drop_zero]; exact h)) HEND.out)
        clear hno
        go_upto_region 5 with fail
        obtain ⟨gp, hgp⟩ : ∃ y, y = w4.heap.size := ⟨_, rfl⟩
        obtain ⟨W5, hW5⟩ : ∃ y, y = w4.alloc (.cells #[.int .i64 0, .slice none 0 0, .slice none 0 0, .slice none 0 0] 26) := ⟨_, rfl⟩
        rw [← hW5, ← hgp]
        have hb5 : Below w4.heap.size w4 W5 := by rw [hW5]; exact below_alloc (Below.refl _ _) _
        have KR5 := Aside0.mk (blk_below KR4.out hb5)
        have HB5 := Aside0.mk (below_step HB4.out hb5)
        clear hW5 hgp hb5 KR4 HB4
        have r0 : W5.cell? ⟨gr, 0, none⟩ = some (.int .i64 0) := (blk_cell KR5.out 0).trans rfl
        have t0 := blk_frozen KR5.out 0
        have r1 : W5.cell? ⟨gr, 1, none⟩ = some (.slice none 0 0) := (blk_cell KR5.out 1).trans rfl
        have t1 := blk_frozen KR5.out 1
        have r2 : W5.cell? ⟨gr, 2, none⟩ = some (.slice none 0 0) := (blk_cell KR5.out 2).trans rfl
        have t2 := blk_frozen KR5.out 2
        have r3 : W5.cell? ⟨gr, 3, none⟩ = some (.slice none 0 0) := (blk_cell KR5.out 3).trans rfl
        have t3 := blk_frozen KR5.out 3
        go_wp2_with fail
        have bk := (blk_set (blk_set (blk_set (blk_set KR5.out 0 (.int .i64 0)) 1 (.slice none 0 0)) 2 (.slice none 0 0)) 3 (.slice none 0 0))
        refine bodyPost_ret (results_geom3 (a := 2) (c := 3) (d := 4) (by rfl) _ _ (by rfl) (by simpa using bk)) rfl ?_
        exact ⟨_, some ((k : Int), 154), rfl, .bad HGE.out rfl, ((((HB5.out.setCell (p := ⟨gr, 0, none⟩) HGR.out _).setCell (p := ⟨gr, 1, none⟩) HGR.out _).setCell (p := ⟨gr, 2, none⟩) HGR.out _).setCell (p := ⟨gr, 3, none⟩) HGR.out _)⟩
    | succ kq =>
      have hlt : (k : Int) < (l.length : Int) := by omega
      have hlt1 : k < l.length := by omega
      have k0 : (0 : Int) ≤ (k : Int) := by omega
      obtain ⟨a1, S1, s1, L1, l1, e1, p0, p1, p2, i1, j1, i2, j2⟩ := at_Nd HC.out (k : Int) (by omega) (by omega)
      subst e1
      rw [rd_Nd_at _ _ hlt1, Int.toNat_natCast] at p0 p1 p2
      rw [rd_Nd_at _ _ hlt1] at i1 j1 i2 j2
      have hmm := nds_mem (List.getElem_mem hlt1)
      have htk := List.take_succ_eq_append_getElem hlt1
      have hpx : ∀ (b : Bool), soundB l[k] = b → soundB l[k] = b := fun _ h => h
      obtain ⟨x, hx⟩ : ∃ x, x = l[k] := ⟨_, rfl⟩
      have HX := Aside0.mk hx
      rw [← hx] at p0 p1 p2 i1 j1 i2 j2 hmm htk
      rw [← HT.out] at htk
      obtain ⟨hm1, hm2⟩ : x.f1.length ≤ 2097152 ∧ x.f2.length ≤ 2097152 := by have := HWL.out; omega
      have HTK := Aside0.mk htk
      have J1 := Aside0.mk j1
      have p0' := cell_below HB.out p0
      have p1' := cell_below HB.out p1
      have p2' := cell_below HB.out p2
      clear p0 p1 p2 i1 j1 i2 j2 hmm htk hx hpx
      go_wp2_with fail
      refine (lone_calls x S1 L1 s1 l1 wr (Kd.C_below J1.out HB.out) (by omega) (by omega)).mono ?_
      rintro e w3 ⟨rfl, hb3⟩
      have KR3 := Aside0.mk (blk_below KR.out hb3)
      have HB3 := Aside0.mk (below_step HB.out hb3)
      clear hb3 KR HB p0' p1' p2'
      cases hs : soundB x with
      | true =>
        have HTS2 := Aside0.mk (show ∀ y ∈ l.take (k + 1), soundB y = true by
          intro y hy
          rw [HTK.out] at hy
          rcases List.mem_append.1 hy with hy | hy
          · exact HTS.out y hy
          · rw [List.mem_singleton.1 hy]; exact hs)
        clear hs
        go_wp2_with fail
        go_roundg kq
        case measure => omega
        case rel => exact ⟨k + 1, by omega, by go_num, HTS2, KR3, HB3⟩
      | false =>
        have HEND := Aside0.mk (show ∀ h : k < l.length, soundB l[k] = false from fun _ => by rw [← HX.out]; exact hs)
        clear hs
        obtain ⟨wr2, hwr⟩ : ∃ y, y = w3 := ⟨_, rfl⟩
        subst hwr
        have KR := KR3
        have HB := HB3
        clear KR3 HB3
        have HMC := Aside0.mk (made_calls T HTS.out HTW.out w (some a1) c HTC.out T.length 0 wr2 HB.out (Nat.zero_le _) (by omega))
        rw [HTL.out] at HMC
        go_wp2_with fail
        refine (show Calls Tryd.prog 42 #[.slice (some a1) k c, .int .i64 0] wr2 _ from HMC.out).mono ?_
        rintro e w4 ⟨u, kv, vb, rfl, hres, hb4⟩
        have KR4 := Aside0.mk (blk_below KR.out hb4)
        have HB4 := Aside0.mk (below_step HB.out hb4)
        have HBX := Aside0.mk (show w.heap.size ≤ wr2.heap.size ∧ gr < wr2.heap.size from ⟨HB.out.size, blk_lt KR.out⟩)
        clear hb4 KR HB HMC
        rcases hres with ⟨rfl, g, r, hcan, hdrop, rfl, hcp⟩ | ⟨rfl, hu0, rfl, hno⟩
        · obtain ⟨cs, rfl, hM⟩ := hcp
          obtain ⟨E1, e1, E2, e2, E3, e3, rfl, _⟩ := kGe_open (kSp_K _ ((kSp _).K_of_M hM))
          have HM4 := Aside0.mk hM
          have HCG := Aside0.mk hcan
          rw [List.drop_zero] at hdrop
          have HDG := Aside0.mk hdrop
          have hFl : (flatN g).length ≤ k := by have h := congrArg List.length hdrop; rw [List.length_append, HTL.out] at h; omega
          obtain ⟨F, hF⟩ : ∃ y, y = (flatN g).length := ⟨_, rfl⟩
          rw [← hF] at hFl
          rw [Nat.zero_add, ← hF]
          have HF := Aside0.mk hF
          clear hM hcan hdrop hF
          go_upto_region 5 with fail
          obtain ⟨gp, hgp⟩ : ∃ y, y = w4.heap.size := ⟨_, rfl⟩
          obtain ⟨W5, hW5⟩ : ∃ y, y = w4.alloc (.cells #[.int .i64 g.f0, .slice E1 g.f1.length e1, .slice E2 g.f2.length e2, .slice E3 g.f3.length e3] 26) := ⟨_, rfl⟩
          rw [← hW5, ← hgp]
          have hb5 : Below w4.heap.size w4 W5 := by rw [hW5]; exact below_alloc (Below.refl _ _) _
          have KP := Aside0.mk (show W5.heap[gp]? = some (.cells #[.int .i64 g.f0, .slice E1 g.f1.length e1, .slice E2 g.f2.length e2, .slice E3 g.f3.length e3] 26 (0, 0)) by rw [hW5, hgp]; exact World.alloc_heap_new _ _)
          have KR5 := Aside0.mk (blk_below KR4.out hb5)
          have HB5 := Aside0.mk (below_step HB4.out hb5)
          have HM5 := Aside0.mk (Kd.M_below HM4.out hb5)
          clear hW5 hgp hb5 KR4 HB4 HM4
          by_cases hend : F < l.length
          · have hend' : (F : Int) < (l.length : Int) := by omega
            have HGE := Aside0.mk (show growE 1 0 l = some F by
              have h := grow_ends (l := l) (k := k) HCG.out (by rw [← HT.out]; exact HDG.out) (by rw [← HF.out]; exact hend)
              rw [← HF.out] at h
              exact h)
            clear hend
            have r0 : W5.cell? ⟨gr, 0, none⟩ = some (.int .i64 0) := (blk_cell KR5.out 0).trans rfl
            have t0 := blk_frozen KR5.out 0
            have r1 : W5.cell? ⟨gr, 1, none⟩ = some (.slice none 0 0) := (blk_cell KR5.out 1).trans rfl
            have t1 := blk_frozen KR5.out 1
            have r2 : W5.cell? ⟨gr, 2, none⟩ = some (.slice none 0 0) := (blk_cell KR5.out 2).trans rfl
            have t2 := blk_frozen KR5.out 2
            have r3 : W5.cell? ⟨gr, 3, none⟩ = some (.slice none 0 0) := (blk_cell KR5.out 3).trans rfl
            have t3 := blk_frozen KR5.out 3
            go_wp2_with fail
            have bk := (blk_set (blk_set (blk_set (blk_set KR5.out 0 (.int .i64 0)) 1 (.slice none 0 0)) 2 (.slice none 0 0)) 3 (.slice none 0 0))
            refine bodyPost_ret (results_geom3 (a := 2) (c := 3) (d := 4) (by rfl) _ _ (by rfl) (by simpa using bk)) rfl ?_
            exact ⟨_, some ((F : Int), 154), rfl, .bad HGE.out rfl, ((((HB5.out.setCell (p := ⟨gr, 0, none⟩) HGR.out _).setCell (p := ⟨gr, 1, none⟩) HGR.out _).setCell (p := ⟨gr, 2, none⟩) HGR.out _).setCell (p := ⟨gr, 3, none⟩) HGR.out _)⟩
          · exfalso; omega
        · have hu2 : u = .agg #[.int .i64 0, .slice none 0 0, .slice none 0 0, .slice none 0 0] := hu0
          clear hu0
          subst hu2
          have HGE := Aside0.mk (show growE 1 0 l = some k from grow_lacks hkl (by rw [← HT.out]; exact HTS.out) (by rw [← HT.out]; intro g r hg h; exact hno g r hg (by rw [List.drop_zero]; exact h)) HEND.out)
          clear hno
          go_upto_region 5 with fail
          obtain ⟨gp, hgp⟩ : ∃ y, y = w4.heap.size := ⟨_, rfl⟩
          obtain ⟨W5, hW5⟩ : ∃ y, y = w4.alloc (.cells #[.int .i64 0, .slice none 0 0, .slice none 0 0, .slice none 0 0] 26) := ⟨_, rfl⟩
          rw [← hW5, ← hgp]
          have hb5 : Below w4.heap.size w4 W5 := by rw [hW5]; exact below_alloc (Below.refl _ _) _
          have KR5 := Aside0.mk (blk_below KR4.out hb5)
          have HB5 := Aside0.mk (below_step HB4.out hb5)
          clear hW5 hgp hb5 KR4 HB4
          have r0 : W5.cell? ⟨gr, 0, none⟩ = some (.int .i64 0) := (blk_cell KR5.out 0).trans rfl
          have t0 := blk_frozen KR5.out 0
          have r1 : W5.cell? ⟨gr, 1, none⟩ = some (.slice none 0 0) := (blk_cell KR5.out 1).trans rfl
          have t1 := blk_frozen KR5.out 1
          have r2 : W5.cell? ⟨gr, 2, none⟩ = some (.slice none 0 0) := (blk_cell KR5.out 2).trans rfl
          have t2 := blk_frozen KR5.out 2
          have r3 : W5.cell? ⟨gr, 3, none⟩ = some (.slice none 0 0) := (blk_cell KR5.out 3).trans rfl
          have t3 := blk_frozen KR5.out 3
          go_wp2_with fail
          have bk := (blk_set (blk_set (blk_set (blk_set KR5.out 0 (.int .i64 0)) 1 (.slice none 0 0)) 2 (.slice none 0 0)) 3 (.slice none 0 0))
          refine bodyPost_ret (results_geom3 (a := 2) (c := 3) (d := 4) (by rfl) _ _ (by rfl) (by simpa using bk)) rfl ?_
          exact ⟨_, some ((k : Int), 154), rfl, .bad HGE.out rfl, ((((HB5.out.setCell (p := ⟨gr, 0, none⟩) HGR.out _).setCell (p := ⟨gr, 1, none⟩) HGR.out _).setCell (p := ⟨gr, 2, none⟩) HGR.out _).setCell (p := ⟨gr, 3, none⟩) HGR.out _)⟩
end Go.Proofs.YtmcbniobbbjdjaaDoor.Tree
namespace Go.Proofs.YtmcbniobbbjdjaaDoor.Tree
open Go.RowKit Go.Proofs.YtmcbniobbbjdjaaDoorW.PrintWords Go.Proofs.YtmcbniobbbjdjaaDoorW.PrintLast Go.Proofs.YtmcbniobbbjdjaaDoorW.PrintMore
set_option linter.unusedVariables false
open Classical in
noncomputable def grownG (l : List Nd) : Ge := if h : ∃ g, flatN g = l ∧ Canon g ∧ checkR g = none then h.choose else zGe
open Classical in
noncomputable def growErr (l : List Nd) : Option (Int × Int) := match growE 1 0 l with
  | some i => some ((i : Int), 154)
  | none => if h : ∃ g, flatN g = l ∧ Canon g then checkR h.choose else none
theorem grownG_yes {l : List Nd} {g : Ge} (hf : flatN g = l) (hc : Canon g) (hk : checkR g = none) : grownG l = g := by
  unfold grownG
  have h : ∃ g, flatN g = l ∧ Canon g ∧ checkR g = none := ⟨g, hf, hc, hk⟩
  rw [dif_pos h]
  exact flatN_inj h.choose_spec.2.1 hc (h.choose_spec.1.trans hf.symm)
theorem grownG_no {l : List Nd} (h : ∀ g, flatN g = l → Canon g → checkR g ≠ none) : grownG l = zGe := by
  unfold grownG
  rw [dif_neg (fun ⟨g, h1, h2, h3⟩ => h g h1 h2 h3)]
theorem growErr_none {l : List Nd} {g : Ge} (he : growE 1 0 l = none) (hf : flatN g = l) (hc : Canon g) : growErr l = checkR g := by
  unfold growErr
  rw [he]
  have h : ∃ g, flatN g = l ∧ Canon g := ⟨g, hf, hc⟩
  dsimp only
  rw [dif_pos h, flatN_inj h.choose_spec.2 hc (h.choose_spec.1.trans hf.symm)]
theorem growErr_some {l : List Nd} {i : Nat} (he : growE 1 0 l = some i) : growErr l = some ((i : Int), 154) := by unfold growErr; rw [he]
theorem grownG_bad {l : List Nd} {i : Nat} (he : growE 1 0 l = some i) : grownG l = zGe := grownG_no fun g h1 h2 _ => by
  rw [← h1, growE_ok h2] at he
  cases he
theorem grownG_bulk (l : List Nd) : (grownG l).bulk ≤ ndsW l + 1 := by
  by_cases h : ∃ g, flatN g = l ∧ Canon g ∧ checkR g = none
  · obtain ⟨g, h1, h2, h3⟩ := h
    rw [grownG_yes h1 h2 h3, ← h1]
    have := canon_W h2
    omega
  · rw [grownG_no (fun g h1 h2 h3 => h ⟨g, h1, h2, h3⟩)]
    unfold zGe
    rw [Ge.bulk_eq]
    simp [bulks]
theorem GrowRes.one {w w' : World} {l : List Nd} {u ev : Value} (h : GrowRes w w' l u ev) : ErrV w' ev (growErr l) ∧ IsG w' u (grownG l) := by
  unfold GrowRes at h
  cases he : growE 1 0 l with
  | some i =>
    rw [he] at h
    obtain ⟨rfl, h⟩ := h
    rw [growErr_some he, grownG_bad he]
    exact ⟨h, noGe_isG _⟩
  | none =>
    rw [he] at h
    obtain ⟨g, hf, hc, h⟩ := h
    rw [growErr_none he hf hc]
    cases hk : checkR g with
    | some e =>
      rw [hk] at h
      obtain ⟨rfl, h⟩ := h
      rw [grownG_no (fun g' h1 h2 => by rw [flatN_inj h2 hc (h1.trans hf.symm), hk]; exact fun h => by cases h)]
      exact ⟨h, noGe_isG _⟩
    | none =>
      rw [hk] at h
      obtain ⟨h, rfl⟩ := h
      rw [grownG_yes hf hc hk]
      exact ⟨rfl, h.isG⟩
theorem RGrowRes.one {w w' : World} {l : List Nd} {u : Value} {x : Option (Int × Int)} (h : RGrowRes w w' l u x) : x = growErr l ∧ IsG w' u (grownG l) := by
  unfold RGrowRes at h
  cases he : growE 1 0 l with
  | some i =>
    rw [he] at h
    obtain ⟨rfl, rfl⟩ := h
    rw [growErr_some he, grownG_bad he]
    exact ⟨rfl, noGe_isG _⟩
  | none =>
    rw [he] at h
    obtain ⟨g, hf, hc, rfl, h⟩ := h
    rw [growErr_none he hf hc]
    cases hk : checkR g with
    | some e =>
      rw [hk] at h
      subst h
      rw [grownG_no (fun g' h1 h2 => by rw [flatN_inj h2 hc (h1.trans hf.symm), hk]; exact fun h => by cases h)]
      exact ⟨rfl, noGe_isG _⟩
    | none =>
      rw [hk] at h
      obtain ⟨N, h⟩ := h
      rw [grownG_yes hf hc hk]
      exact ⟨rfl, h.isG⟩
end Go.Proofs.YtmcbniobbbjdjaaDoor.Tree
