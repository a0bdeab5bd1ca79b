/- The reference's Copy by contract: each list of the answer lies apart. No conditions but those told. -/
import Derived.Test.YtmcbniobbbjdjaaTFind
import Derived.Test.YtmcbniobbbjdjaaTRoomy
namespace Go.Proofs.Ytmcbniobbbjdjaa.Tree
open Go.RowKit Go.Proofs.YtmcbniobbbjdjaaW.PrintWords Go.Proofs.YtmcbniobbbjdjaaW.PrintLast Go.Proofs.YtmcbniobbbjdjaaW.PrintMore
set_option linter.unusedVariables false
set_option linter.unusedSimpArgs false
set_option maxRecDepth 100000 in
set_option maxHeartbeats 4000000 in
theorem rcopy_calls (n : Nat) : ∀ (v : Value) (g : Ge) (w : World), IsG w v g → g.bulk ≤ n → n ≤ 1073741824 →
    Calls Try.prog 27 #[v] w fun e w' => ∃ u, e = .returned u ∧ CopyOf n w w' u g ∧ Below w.heap.size w w' := by
  induction n with
  | zero => intro v g w _ h; have := g.bulk_eq; omega
  | succ n ih =>
  intro v g w hv hbk hn
  obtain ⟨A1, c1, A2, c2, A3, c3, rfl, l1, h1, l2, h2, l3, h3⟩ := hv
  have hbq := g.bulk_eq
  have H1 := Aside0.mk h1
  have H2 := Aside0.mk h2
  have H3 := Aside0.mk h3
  have hu := Try.underlying26
  have U := Aside0.mk (upTo_le g.f2)
  have IH := Aside0.mk ih
  clear h1 h2 h3 ih
  have HB := Aside0.mk (Below.refl w.heap.size w)
  have hmx : Try.prog.follows .mixedOrders = true := by kernel_rfl
  go_enter Try.func27, Try.ntmps27
  have HO := Aside0.mk (Kd.R_nil kPt 59 w w.heap.size (fun _ => True))
  go_wp2_with (first
    | ((with_reducible refine gate_dst (N := 1) rfl ?_); refine box_event ?hg (N := 1) ?hd (cs := #[.int .i64 g.f0, .slice A1 g.f1.length c1, .slice A2 g.f2.length c2, .slice A3 g.f3.length c3]) (t := 26) ?hr ?_; (case hd => rfl); (case hg => rfl); (case hr => first | (go_simp; done) | (go_simp; rfl)); intro gb_ hgb_ wb_ hbox_ hbb_; have GE := Aside0.mk (show w.heap.size ≤ gb_ from by rw [hgb_]; exact below_size (by repeat (first | (with_reducible first | exact HB.out | apply below_alloc | apply pw_below_drewN | apply below_drew1) | exact HB.out))); have n_ := Aside0.mk (below_step (by repeat (first | (with_reducible first | exact HB.out | apply below_alloc | apply pw_below_drewN | apply below_drew1) | exact HB.out)) hbb_); clear HB; have HB := n_; have BK := Aside0.mk hbox_; (have n_ := Aside0.mk (Kd.R_below HO.out hbb_); clear HO; have HO := n_; clear n_; have z0_ : wb_.cell? ⟨gb_, 0, none⟩ = some (.int .i64 g.f0) := (blk_cell BK.out 0).trans rfl; have z1_ : wb_.cell? ⟨gb_, 1, none⟩ = some (.slice A1 g.f1.length c1) := (blk_cell BK.out 1).trans rfl; have z2_ : wb_.cell? ⟨gb_, 2, none⟩ = some (.slice A2 g.f2.length c2) := (blk_cell BK.out 2).trans rfl; have z3_ : wb_.cell? ⟨gb_, 3, none⟩ = some (.slice A3 g.f3.length c3) := (blk_cell BK.out 3).trans rfl; have hgq : gb_ < wb_.heap.size := blk_lt BK.out; have hgq2 : gb_ ≠ wb_.heap.size := Nat.ne_of_lt hgq); clear n_ hbox_ hbb_ hgb_)
    | ((with_reducible refine gate_builtin (b := .append) (xs := #[.tmp 10, .tmp 12]) rfl ?_); at_builtin; refine Kd.R_append_rows (kPt) (w0 := w) w.heap.size rfl (.tmp 10) (.tmp 12) 22 59 (.agg #[.int .u64 0, .int .u64 0]) 16 rfl Try.underlying22 infoPt rfl (by decide) (by omega) (.slice none 0 0) ([]) (g.f1) _ _ _ (fun _ => True) (fun _ => False) rfl rfl ?aO ?aR (fun _ _ h => h) (fun _ h => h.elim) ?aF ?aB ?aS ?aL ?_; (case aR => exact Kd.C_below H1.out (by repeat (first | (with_reducible first | exact HB.out | apply below_alloc | apply pw_below_drewN | apply below_drew1) | exact HB.out))); (case aB => exact (by repeat (first | (with_reducible first | exact HB.out | apply below_alloc | apply pw_below_drewN | apply below_drew1) | exact HB.out))); (case aF => exact (fun _ _ => trivial)); (case aO => exact (by (with_reducible repeat (first | apply Kd.R_alloc | apply Kd.R_drewN | apply Kd.R_drew)); exact HO.out)); (case aS => exact (below_size (by repeat (first | (with_reducible first | exact HB.out | apply below_alloc | apply pw_below_drewN | apply below_drew1) | exact HB.out)))); (case aL => show (0 + g.f1.length) * 16 ≤ _; omega); intro v1_ w1_ ho_ hb_ hg_ hat_; (rw [List.nil_append] at ho_; obtain ⟨A4, c4, e4_⟩ := Kd.R_slice ho_; subst e4_; have BG1 := Aside0.mk (blk_grown (blk_alloc (blk_alloc BK.out (.cells #[.int .i64 0, .slice none 0 0, .slice none 0 0, .slice none 0 0] 26)) (.cells #[.int .i64 g.f0, .slice none 0 0, .slice none 0 0, .slice none 0 0] 26)) hg_ (by simp [Value.ownBlock])); have BR1 := Aside0.mk (blk_grown (blk_alloc (World.alloc_heap_new wb_ (.cells #[.int .i64 0, .slice none 0 0, .slice none 0 0, .slice none 0 0] 26)) (.cells #[.int .i64 g.f0, .slice none 0 0, .slice none 0 0, .slice none 0 0] 26)) hg_ (by simp [Value.ownBlock])); have BO1 := Aside0.mk (blk_grown (show ((wb_.alloc (.cells #[.int .i64 0, .slice none 0 0, .slice none 0 0, .slice none 0 0] 26)).alloc (.cells #[.int .i64 g.f0, .slice none 0 0, .slice none 0 0, .slice none 0 0] 26)).heap[wb_.heap.size + 1]? = some (.cells #[.int .i64 g.f0, .slice none 0 0, .slice none 0 0, .slice none 0 0] 26 (0, 0)) from by have := World.alloc_heap_new (wb_.alloc (.cells #[.int .i64 0, .slice none 0 0, .slice none 0 0, .slice none 0 0] 26)) (.cells #[.int .i64 g.f0, .slice none 0 0, .slice none 0 0, .slice none 0 0] 26); simpa using this) hg_ (by simp [Value.ownBlock])); have hs1_ : w1_.cell? ⟨wb_.heap.size + 1, 1, none⟩ = some (.slice none 0 0) := (blk_cell BO1.out 1).trans rfl; have hf1_ := blk_frozen BO1.out 1); clear HB HO; have HB := Aside0.mk hb_; have HO := Aside0.mk ho_; clear hb_ ho_ hg_ hat_))
  obtain ⟨gr, hgr⟩ : ∃ x, x = wb_.heap.size := ⟨_, rfl⟩
  obtain ⟨go_, hgo_⟩ : ∃ x, x = wb_.heap.size + 1 := ⟨_, rfl⟩
  obtain ⟨W1, hW1⟩ : ∃ x, x = w1_.setCell ⟨wb_.heap.size + 1, 1, none⟩ (.slice A4 g.f1.length c4) := ⟨_, rfl⟩
  rw [← hW1, ← hgo_, ← hgr]
  have hge : w.heap.size ≤ gb_ ∧ gb_ < gr := by have := GE.out; omega
  have hlt' : gr < go_ := by omega
  have bg1 := BG1.out
  have br1 := BR1.out
  have bo1 := BO1.out
  rw [← hgo_] at bo1 hW1
  rw [← hgr] at br1
  have hgo : go_ < W1.heap.size := by rw [hW1]; simpa using blk_lt bo1
  have CP := Aside0.mk (show CpW w gb_ gr go_ #[.int .i64 g.f0, .slice A1 g.f1.length c1, .slice A2 g.f2.length c2, .slice A3 g.f3.length c3] g.f0 (.slice A4 g.f1.length c4) (.slice none 0 0) (.slice none 0 0) W1 by
    rw [hW1]
    have hq : w.heap.size ≤ go_ := by omega
    exact ⟨blk_far (p := ⟨go_, 1, none⟩) bg1 (by show gb_ ≠ go_; omega) _, blk_far (p := ⟨go_, 1, none⟩) br1 (by show gr ≠ go_; omega) _, by simpa using blk_set bo1 1 (.slice A4 g.f1.length c4), HB.out.setCell (p := ⟨go_, 1, none⟩) hq _⟩)
  have HR := Aside0.mk (show Kd.R kPt 59 W1 w.heap.size (fun k => k < W1.heap.size ∧ k ≠ go_) (.slice A4 g.f1.length c4) g.f1 by
    have h1 : Kd.R kPt 59 W1 w.heap.size (fun k => True ∧ k ≠ go_) (.slice A4 g.f1.length c4) g.f1 := by
      rw [hW1]
      exact Kd.R_far (p := ⟨go_, 1, none⟩) (Kd.R_types HO.out bo1 (by decide)) (fun _ h => h.2) _
    exact Kd.R_mono (Kd.R_bound h1) (fun k h => ⟨h.2.2.1, h.1.2⟩))
  have HS := Aside0.mk (Kd.S_nil (Kd.slice 59 kPt) 22 W1 w.heap.size (fun k => W1.heap.size ≤ k))
  clear hW1 hgr hgo_ HB HO BK GE BG1 BR1 BO1 bg1 br1 bo1 hs1_ hf1_ z0_ z1_ z2_ z3_ hgq hgq2
  have z2_ : W1.cell? ⟨gb_, 2, none⟩ = some (.slice A2 g.f2.length c2) := (blk_cell CP.out.b 2).trans rfl
  go_loopg [4] g.f2.length (fun kq i wr => ∃ (j : Nat) (v2 : Value), j + kq = g.f2.length ∧ i = .int .i64 (j : Int) ∧ W1.heap.size ≤ wr.heap.size ∧ Aside0 (CpW w gb_ gr go_ #[.int .i64 g.f0, .slice A1 g.f1.length c1, .slice A2 g.f2.length c2, .slice A3 g.f3.length c3] g.f0 (.slice A4 g.f1.length c4) v2 (.slice none 0 0) wr) ∧ Aside0 (Kd.R kPt 59 wr w.heap.size (fun k => k < W1.heap.size ∧ k ≠ go_) (.slice A4 g.f1.length c4) g.f1) ∧ Aside0 (Kd.S (Kd.slice 59 kPt) 22 wr w.heap.size (fun k => W1.heap.size ≤ k) v2 (g.f2.take j)))
  case atStart => exact ⟨0, _, by omega, rfl, Nat.le_refl _, CP, HR, HS⟩
  case round =>
    clear CP HR HS z2_
    obtain ⟨j, v2, hj, rfl, hsz, CP, HR, HS⟩ := hrel
    have z2_ : wr.cell? ⟨gb_, 2, none⟩ = some (.slice A2 g.f2.length c2) := (blk_cell CP.out.b 2).trans rfl
    cases gk with
    | zero =>
      have hlt : ¬ ((j : Int) < (g.f2.length : Int)) := by omega
      obtain rfl : j = g.f2.length := by omega
      rw [List.take_length] at HS
      obtain ⟨W2, hW2⟩ : ∃ W2, W2 = wr := ⟨_, rfl⟩
      subst hW2
      have HS2 := Aside0.mk (show Kd.S (Kd.slice 59 kPt) 22 W2 w.heap.size (fun k => W1.heap.size ≤ k ∧ k < W2.heap.size) v2 g.f2 from Kd.S_mono (Kd.S_bound HS.out) (fun k h => ⟨h.1, h.2.2.1⟩))
      have hs3 : Kd.S (kSp n) 26 W2 w.heap.size (fun k => W2.heap.size ≤ k) (.slice none 0 0) [] := Kd.S_nil _ _ _ _ _
      have HS3 := Aside0.mk hs3
      have z3_ : W2.cell? ⟨gb_, 3, none⟩ = some (.slice A3 g.f3.length c3) := (blk_cell CP.out.b 3).trans rfl
      have BL := Aside0.mk (bulks_len g.f3)
      have hb3 : g.f3.length ≤ 1073741824 := by have := BL.out; omega
      clear HS hs3 hlt hj
      go_wp2_with fail
      go_loopg [5] g.f3.length (fun kq i wr => ∃ (j : Nat) (v3 : Value), j + kq = g.f3.length ∧ i = .int .i64 (j : Int) ∧ W2.heap.size ≤ wr.heap.size ∧ Aside0 (CpW w gb_ gr go_ #[.int .i64 g.f0, .slice A1 g.f1.length c1, .slice A2 g.f2.length c2, .slice A3 g.f3.length c3] g.f0 (.slice A4 g.f1.length c4) v2 v3 wr) ∧ Aside0 (Kd.R kPt 59 wr w.heap.size (fun k => k < W1.heap.size ∧ k ≠ go_) (.slice A4 g.f1.length c4) g.f1) ∧ Aside0 (Kd.S (Kd.slice 59 kPt) 22 wr w.heap.size (fun k => W1.heap.size ≤ k ∧ k < W2.heap.size) v2 g.f2) ∧ Aside0 (Kd.S (kSp n) 26 wr w.heap.size (fun k => W2.heap.size ≤ k) v3 (g.f3.take j)))
      case atStart => exact ⟨0, _, by omega, rfl, Nat.le_refl _, CP, HR, HS2, HS3⟩
      case round =>
        clear CP HR HS2 HS3 z3_ z2_
        obtain ⟨j, v3, hj, rfl, hszq, CP, HR, HS2, HS3⟩ := hrel
        have z3_ : wr.cell? ⟨gb_, 3, none⟩ = some (.slice A3 g.f3.length c3) := (blk_cell CP.out.b 3).trans rfl
        cases gk with
        | zero =>
          have hlt : ¬ ((j : Int) < (g.f3.length : Int)) := by omega
          obtain rfl : j = g.f3.length := by omega
          rw [List.take_length] at HS3
          obtain ⟨A5, c5, e5⟩ := Kd.S_slice HS2.out
          obtain ⟨A6, c6, e6⟩ := Kd.S_slice HS3.out
          subst e5 e6
          have hW12 : W1.heap.size ≤ W2.heap.size := hsz
          have s0 : wr.cell? ⟨go_, 0, none⟩ = some (.int .i64 g.f0) := (blk_cell CP.out.o 0).trans rfl
          have s1 : wr.cell? ⟨go_, 1, none⟩ = some (.slice A4 g.f1.length c4) := (blk_cell CP.out.o 1).trans rfl
          have s2 : wr.cell? ⟨go_, 2, none⟩ = some (.slice A5 g.f2.length c5) := (blk_cell CP.out.o 2).trans rfl
          have s3 : wr.cell? ⟨go_, 3, none⟩ = some (.slice A6 g.f3.length c6) := (blk_cell CP.out.o 3).trans rfl
          have r0 : wr.cell? ⟨gr, 0, none⟩ = some (.int .i64 0) := (blk_cell CP.out.r 0).trans rfl
          have r1 : wr.cell? ⟨gr, 1, none⟩ = some (.slice none 0 0) := (blk_cell CP.out.r 1).trans rfl
          have r2 : wr.cell? ⟨gr, 2, none⟩ = some (.slice none 0 0) := (blk_cell CP.out.r 2).trans rfl
          have r3 : wr.cell? ⟨gr, 3, none⟩ = some (.slice none 0 0) := (blk_cell CP.out.r 3).trans rfl
          have t0 := blk_frozen CP.out.r 0
          have t1 := blk_frozen CP.out.r 1
          have t2 := blk_frozen CP.out.r 2
          have t3 := blk_frozen CP.out.r 3
          have hHC := Aside0.mk (And.intro hge (And.intro hlt' (And.intro hgo hW12)))
          clear hge hlt' hgo hW12 hlt hj hszq hsz
          go_wp2_with fail
          have bk := blk_set (blk_set (blk_set (blk_set CP.out.r 0 (.int .i64 g.f0)) 1 (.slice A4 g.f1.length c4)) 2 (.slice A5 g.f2.length c5)) 3 (.slice A6 g.f3.length c6)
          refine bodyPost_ret (results_geom (a := 2) (by rfl) _ _ (by rfl) (by simpa using bk)) rfl ?_
          obtain ⟨hge, hlt', hgo, hW12⟩ := hHC.out
          have hrr := Kd.R_far (p := ⟨gr, 3, none⟩) (Kd.R_far (p := ⟨gr, 2, none⟩) (Kd.R_far (p := ⟨gr, 1, none⟩) (Kd.R_far (p := ⟨gr, 0, none⟩) (Kd.R_types (Kd.R_bound HR.out) CP.out.r (by decide)) (fun _ h => h.2) (.int .i64 g.f0)) (fun _ h => h.2) (.slice A4 g.f1.length c4)) (fun _ h => h.2) (.slice A5 g.f2.length c5)) (fun _ h => h.2) (.slice A6 g.f3.length c6)
          have hss := Kd.S_far (p := ⟨gr, 3, none⟩) (Kd.S_far (p := ⟨gr, 2, none⟩) (Kd.S_far (p := ⟨gr, 1, none⟩) (Kd.S_far (p := ⟨gr, 0, none⟩) HS2.out (fun k h => by show k ≠ gr; omega) (.int .i64 g.f0)) (fun k h => by show k ≠ gr; omega) (.slice A4 g.f1.length c4)) (fun k h => by show k ≠ gr; omega) (.slice A5 g.f2.length c5)) (fun k h => by show k ≠ gr; omega) (.slice A6 g.f3.length c6)
          have hqq := Kd.S_far (p := ⟨gr, 3, none⟩) (Kd.S_far (p := ⟨gr, 2, none⟩) (Kd.S_far (p := ⟨gr, 1, none⟩) (Kd.S_far (p := ⟨gr, 0, none⟩) HS3.out (fun k h => by show k ≠ gr; omega) (.int .i64 g.f0)) (fun k h => by show k ≠ gr; omega) (.slice A4 g.f1.length c4)) (fun k h => by show k ≠ gr; omega) (.slice A5 g.f2.length c5)) (fun k h => by show k ≠ gr; omega) (.slice A6 g.f3.length c6)
          have hgr : w.heap.size ≤ gr := by omega
          refine ⟨_, rfl, ⟨[.int .i64 g.f0, .slice A4 g.f1.length c4, .slice A5 g.f2.length c5, .slice A6 g.f3.length c6], rfl, ?_⟩, (((CP.out.B.setCell (p := ⟨gr, 0, none⟩) hgr _).setCell (p := ⟨gr, 1, none⟩) hgr _).setCell (p := ⟨gr, 2, none⟩) hgr _).setCell (p := ⟨gr, 3, none⟩) hgr _⟩
          rw [kSp_M]
          exact ⟨_, _, _, _, _, _, rfl, fun k h => h.1.2.1, fun k h => by show w.heap.size ≤ k; omega, fun k h => by show w.heap.size ≤ k; omega, fun k h h' => by have := h.1.1.1; omega, fun k h h' => by have := h.1.1.1; omega, fun k h h' => by omega, hrr, hss, hqq⟩
        | succ kq =>
          have hlt : j < g.f3.length := by omega
          obtain ⟨a3, B1, d1, B2, d2, B3, d3, ea, p0, p1, p2, p3, m1, q1, m2, q2, m3, q3⟩ := at_Ge H3.out j (by omega) (by omega)
          subst ea
          rw [rd_Ge_at _ _ hlt] at p0 p1 p2 p3 q1 q2 q3 m1 m2 m3
          rw [Int.toNat_natCast] at p0 p1 p2 p3
          have Q0 := Aside0.mk p0
          have Q1 := Aside0.mk p1
          have Q2 := Aside0.mk p2
          have Q3 := Aside0.mk p3
          have HG := Aside0.mk (show IsG w (.agg #[.int .i64 (g.f3[j]).f0, .slice B1 (g.f3[j]).f1.length d1, .slice B2 (g.f3[j]).f2.length d2, .slice B3 (g.f3[j]).f3.length d3]) g.f3[j] from ⟨B1, d1, B2, d2, B3, d3, rfl, m1, q1, m2, q2, m3, q3⟩)
          have hpb : (g.f3[j]).bulk ≤ n := by have := bulks_mem (List.getElem_mem hlt); omega
          have i0 : (0 : Int) ≤ (j : Int) := by omega
          have i1 : (j : Int) < (g.f3.length : Int) := by omega
          clear p0 p1 p2 p3 q1 q2 q3 m1 m2 m3
          go_wp2_with fail
          have cpb := CP.out.below (below_drew (Below.refl _ _))
          have hrb := Kd.R_drew HR.out
          have hsb := Kd.S_drew HS2.out
          have hqb := Kd.S_drew HS3.out
          have hszd : wr.drew.heap.size = wr.heap.size := rfl
          refine start_ (n := 12) (S := fun w' => w'.cell? ⟨go_, 3, none⟩ = some (v3) ∧ w'.cell? ⟨gb_, 3, none⟩ = some (.slice (some a3) g.f3.length c3) ∧ w'.cell? (a3.add (j * 4)) = some (.int .i64 (g.f3[j]).f0) ∧ w'.cell? ⟨(a3.add (j * 4)).block, (a3.add (j * 4)).off + 1, none⟩ = some (.slice B1 (g.f3[j]).f1.length d1) ∧ w'.cell? ⟨(a3.add (j * 4)).block, (a3.add (j * 4)).off + 2, none⟩ = some (.slice B2 (g.f3[j]).f2.length d2) ∧ w'.cell? ⟨(a3.add (j * 4)).block, (a3.add (j * 4)).off + 3, none⟩ = some (.slice B3 (g.f3[j]).f3.length d3) ∧ True) (ds := [11]) #[false, false, false, false, false, false, false, false, false, false, false, false] hmx rfl rfl ⟨(blk_cell cpb.o 3).trans rfl, (blk_cell cpb.b 3).trans rfl, cell_below cpb.B Q0.out, cell_below cpb.B Q1.out, cell_below cpb.B Q2.out, cell_below cpb.B Q3.out, trivial⟩ (fun hHeld => ?_)
          clear CP HR HS2 HS3 z3_
          rw [← hszd] at hszq
          clear hszd
          generalize wr.drew = Wb at cpb hrb hsb hqb hszq hHeld ⊢
          (refine pure_ (i := 0) (N := some 41) (v := ?_) (a' := ?_) #[true, false, false, false, false, false, false, false, false, false, false, false] rfl rfl (by kernel_rfl) (fun _ _ _ h => h) (Or.inl ⟨by rfl, ?_⟩) ?_ ?_; rotate_left; (focus (intro w'_; go_simp; with_reducible rfl)); rotate_left; (focus (simp only [Act.put, List.setIfInBounds_toArray, List.set_cons_zero, List.set_cons_succ]; rfl)))
          (refine pure_ (i := 2) (N := some 43) (v := ?_) (a' := ?_) #[true, false, true, false, false, false, false, false, false, false, false, false] rfl rfl (by kernel_rfl) (fun _ _ _ h => h) (Or.inl ⟨by rfl, ?_⟩) ?_ ?_; rotate_left; (focus (intro w'_; go_simp; with_reducible rfl)); rotate_left; (focus (simp only [Act.put, List.setIfInBounds_toArray, List.set_cons_zero, List.set_cons_succ]; rfl)))
          (refine pure_ (i := 4) (N := some 45) (v := ?_) (a' := ?_) #[true, false, true, false, true, false, false, false, false, false, false, false] rfl rfl (by kernel_rfl) (fun _ _ _ h => h) (Or.inl ⟨by rfl, ?_⟩) ?_ ?_; rotate_left; (focus (intro w'_; go_simp; with_reducible rfl)); rotate_left; (focus (simp only [Act.put, List.setIfInBounds_toArray, List.set_cons_zero, List.set_cons_succ]; rfl)))
          (refine take_ (i := 1) (N := some 42) (v := ?_) (a' := ?_) #[true, true, true, false, true, false, false, false, false, false, false, false] rfl rfl (by kernel_rfl) (fun _ _ _ h => h) (Or.inl ⟨by rfl, ?_⟩) hHeld ?_ ?_; rotate_left; (focus (intro w'_ hs_; (repeat obtain ⟨_, hs_⟩ := hs_); go_simp; with_reducible rfl)); rotate_left; (focus (simp only [Act.put, List.setIfInBounds_toArray, List.set_cons_zero, List.set_cons_succ]; rfl)))
          (refine take_ (i := 3) (N := some 44) (v := ?_) (a' := ?_) #[true, true, true, true, true, false, false, false, false, false, false, false] rfl rfl (by kernel_rfl) (fun _ _ _ h => h) (Or.inl ⟨by rfl, ?_⟩) hHeld ?_ ?_; rotate_left; (focus (intro w'_ hs_; (repeat obtain ⟨_, hs_⟩ := hs_); go_simp; with_reducible rfl)); rotate_left; (focus (simp only [Act.put, List.setIfInBounds_toArray, List.set_cons_zero, List.set_cons_succ]; rfl)))
          (refine pure_ (i := 5) (N := some 46) (v := ?_) (a' := ?_) #[true, true, true, true, true, true, false, false, false, false, false, false] rfl rfl (by kernel_rfl) (fun _ _ _ h => h) (Or.inl ⟨by rfl, ?_⟩) ?_ ?_; rotate_left; (focus (intro w'_; go_simp; with_reducible rfl)); rotate_left; (focus (simp only [Act.put, List.setIfInBounds_toArray, List.set_cons_zero, List.set_cons_succ]; rfl)))
          (refine take_ (i := 6) (N := some 47) (v := ?_) (a' := ?_) #[true, true, true, true, true, true, true, false, false, false, false, false] rfl rfl (by kernel_rfl) (fun _ _ _ h => h) (Or.inl ⟨by rfl, ?_⟩) hHeld ?_ ?_; rotate_left; (focus (intro w'_ hs_; (repeat obtain ⟨_, hs_⟩ := hs_); go_simp; with_reducible rfl)); rotate_left; (focus (simp only [Act.put, List.setIfInBounds_toArray, List.set_cons_zero, List.set_cons_succ]; rfl)))
          refine one_ (i := 7) (N := some 48) #[true, true, true, true, true, true, true, true, false, false, false, false] rfl rfl (by kernel_rfl) (by decide) (fun K hK => ?_)
          refine goes_ Try.func27 (by kernel_rfl) rfl #[.agg #[.int .i64 (g.f3[j]).f0, .slice B1 (g.f3[j]).f1.length d1, .slice B2 (g.f3[j]).f2.length d2, .slice B3 (g.f3[j]).f3.length d3]] (by rfl) rfl rfl (by (try simp only [List.map_toArray, List.map_cons, List.map_nil]); first | done | rfl) ?_
          refine (IH.out _ g.f3[j] Wb (HG.out.below cpb.B) hpb (by omega)).mono ?_
          rintro e w1 ⟨vr, rfl, ⟨cs, rfl, hM⟩, hb1⟩
          obtain ⟨E1, e1, E2, e2, E3, e3, rfl, _⟩ := kGe_open (kSp_K n ((kSp n).K_of_M hM))
          have cp := cpb.below hb1
          have hr2 := Kd.R_below hrb hb1
          have hs2 := Kd.S_below hsb hb1
          have hq2 := Kd.S_old hqb hb1
          have hvlt := Kd.S_lt hqb
          have hsz1 : Wb.heap.size ≤ w1.heap.size := hb1.size
          clear cpb hrb hsb hqb
          refine ⟨_, rfl, hK.out _ _ ⟨(blk_cell cp.o 3).trans rfl, (blk_cell cp.b 3).trans rfl, cell_below cp.B Q0.out, cell_below cp.B Q1.out, cell_below cp.B Q2.out, cell_below cp.B Q3.out, trivial⟩ (fun hHeld2 => ?_)⟩
          clear hK K hHeld
          (refine norm_ (a' := ?_) ?_ ?_; rotate_left; focus (show Act.put _ (some 48) _ = _; simp only [Act.put, List.setIfInBounds_toArray, List.set_cons_zero, List.set_cons_succ]; rfl))
          refine one_ (i := 8) (N := some 49) #[true, true, true, true, true, true, true, true, true, false, false, false] rfl rfl (by kernel_rfl) (by decide) (fun K hK => ?_)
          (refine value_ (w1 := ?_) (v := ?_) (by rfl) rfl ?_ ?_; rotate_left 2; (focus (go_simp; constructor <;> rfl)))
          have cpa := cp.below (below_alloc (Below.refl _ w1) (.cells #[.int .i64 (g.f3[j]).f0, .slice E1 (g.f3[j]).f1.length e1, .slice E2 (g.f3[j]).f2.length e2, .slice E3 (g.f3[j]).f3.length e3] 26))
          refine hK.out _ _ ⟨(blk_cell cpa.o 3).trans rfl, (blk_cell cpa.b 3).trans rfl, cell_below cpa.B Q0.out, cell_below cpa.B Q1.out, cell_below cpa.B Q2.out, cell_below cpa.B Q3.out, trivial⟩ (fun hHeld => ?_)
          clear hK K hHeld2 cpa
          (refine norm_ (a' := ?_) ?_ ?_; rotate_left; focus (show Act.put _ (some 49) _ = _; simp only [Act.put, List.setIfInBounds_toArray, List.set_cons_zero, List.set_cons_succ]; rfl))
          refine one_ (i := 9) (N := some 50) #[true, true, true, true, true, true, true, true, true, true, false, false] rfl rfl (by kernel_rfl) (by decide) (fun K hK => ?_)
          refine Kd.S_append_step (kSp n) (w0 := w) w.heap.size (by rfl) (.tmp 42) (.tmp 49) 24 26 (.agg #[.int .i64 0, .slice none 0 0, .slice none 0 0, .slice none 0 0]) 80 rfl Try.underlying24 (by rw [kSp_sz]; exact infoGe) (by rw [kSp_sz]; rfl) (by rw [kSp_sz]; decide) (by omega) v3 (g.f3.take j) g.f3[j] [.int .i64 (g.f3[j]).f0, .slice E1 (g.f3[j]).f1.length e1, .slice E2 (g.f3[j]).f2.length e2, .slice E3 (g.f3[j]).f3.length e3] (fun k => W2.heap.size ≤ k) (fun k => Wb.heap.size ≤ k) rfl rfl ?aP ?aK ?aF ?aO ?aB ?aS ?aL ?_
          case aP => exact (kSp n).M_lower (by show w.heap.size ≤ Wb.heap.size; have := hge.1; omega) ((kSp n).M_mono (fun k h => h) hM)
          case aK => exact fun k h => ⟨by omega, fun e => by have := hvlt k e.symm; omega⟩
          case aF => exact fun k h => by omega
          case aO => exact Kd.S_mono hq2 (fun k h => ⟨h.1, by have := h.2; show ¬ _ ≤ k; omega⟩)
          case aB => exact cp.B
          case aS => have := hge.1; omega
          case aL => rw [List.length_take]; omega
          intro v4 w2 ho2 hb2 hg2 hat2
          obtain ⟨T, hT⟩ : ∃ T, T = List.take j g.f3 ++ [g.f3[j]] := ⟨_, rfl⟩
          rw [← hT] at ho2
          rw [← List.take_succ_eq_append_getElem hlt] at hT
          have HT := Aside0.mk hT
          clear hT
          obtain ⟨A6, c6, e6⟩ := Kd.S_slice ho2
          subst e6
          have hown : ∀ k, v3.ownBlock = some k → W2.heap.size ≤ k := fun k e => (Kd.S_R hq2).1 k e |>.1
          have hW12 : W1.heap.size ≤ W2.heap.size := hsz
          have cp2 := cp.grown hg2 hb2 (fun e => by have := hown _ e.symm; omega) (fun e => by have := hown _ e.symm; omega) (fun e => by have := hown _ e.symm; omega)
          have hr3 := Kd.R_grown hr2 hg2 (fun k h e => by have := hown _ e.symm; omega)
          have hs3 := Kd.S_grown hs2 hg2 (fun k h e => by have := hown _ e.symm; omega)
          have hsz2 : Wb.heap.size ≤ w2.heap.size := Nat.le_trans hsz1 hg2.size
          clear cp hr2 hs2 hq2
          refine hK.out _ _ ⟨(blk_cell cp2.o 3).trans rfl, (blk_cell cp2.b 3).trans rfl, cell_below cp2.B Q0.out, cell_below cp2.B Q1.out, cell_below cp2.B Q2.out, cell_below cp2.B Q3.out, trivial⟩ (fun hHeld2 => ?_)
          clear hK K hHeld
          (refine norm_ (a' := ?_) ?_ ?_; rotate_left; focus (show Act.put _ (some 50) _ = _; simp only [Act.put, List.setIfInBounds_toArray, List.set_cons_zero, List.set_cons_succ]; rfl))
          (refine pure_ (i := 10) (N := some 51) (v := ?_) (a' := ?_) #[true, true, true, true, true, true, true, true, true, true, true, false] rfl rfl (by kernel_rfl) (fun _ _ _ h => h) (Or.inl ⟨by rfl, ?_⟩) ?_ ?_; rotate_left; (focus (intro w'_; go_simp; with_reducible rfl)); rotate_left; (focus (simp only [Act.put, List.setIfInBounds_toArray, List.set_cons_zero, List.set_cons_succ]; rfl)))
          refine last_ (i := 11) (N := none) #[true, true, true, true, true, true, true, true, true, true, true, true] rfl rfl (by kernel_rfl) (by decide) (fun K hK => ?_)
          have hs0 : w2.cell? ⟨go_, 3, none⟩ = some v3 := (blk_cell cp2.o 3).trans rfl
          have hf0 := blk_frozen cp2.o 3
          refine skip_ (w1 := ?_) (by rfl) rfl ?_ ?_
          rotate_left
          · go_simp
            rfl
          refine hK.out _ _ ?_
          clear hK K
          refine done_ (by kernel_rfl) ?_
          have cp3 := cp2.set3 (by omega) (by omega) (by omega) (.slice A6 T.length c6)
          have hr4 := Kd.R_far (p := ⟨go_, 3, none⟩) hr3 (fun k h => h.2) (.slice A6 T.length c6)
          have hs4 := Kd.S_set hs3 cp2.o (by decide) 3 (.slice A6 T.length c6)
          have hq4 := Kd.S_far (p := ⟨go_, 3, none⟩) ho2 (fun k h => by show k ≠ go_; omega) (.slice A6 T.length c6)
          clear cp2 hr3 ho2 hs0 hf0 hHeld2 hs3
          have hsz3 : W2.heap.size ≤ (w2.setCell ⟨go_, 3, none⟩ (.slice A6 T.length c6)).heap.size := by simp; omega
          obtain ⟨v5, hv5⟩ : ∃ v5, v5 = Value.slice A6 T.length c6 := ⟨_, rfl⟩
          rw [← hv5] at cp3 hr4 hs4 hq4 hsz3 ⊢
          obtain ⟨W4, hW4⟩ : ∃ W4, W4 = w2.setCell ⟨go_, 3, none⟩ v5 := ⟨_, rfl⟩
          rw [← hW4] at cp3 hr4 hs4 hq4 hsz3 ⊢
          clear hv5 hW4
          go_wp2_with fail
          go_roundg kq
          case measure => omega
          case rel => exact ⟨j + 1, _, by omega, by go_num, hsz3, ⟨cp3⟩, ⟨hr4⟩, ⟨hs4⟩, ⟨by rw [← HT.out]; exact hq4⟩⟩
    | succ kq =>
      have hlt : j < g.f2.length := by omega
      obtain ⟨a2, A0, c0, ea, hx, hl, hc⟩ := at_L2 H2.out j (by omega) (by omega)
      subst ea
      rw [rd_L2_at _ _ hlt, Int.toNat_natCast] at hx
      rw [rd_L2_at _ _ hlt] at hc
      have hlen : (g.f2[j]).length ≤ 1073741824 := by
        have := U.out (j + 1)
        rw [upTo_succ g.f2 j hlt] at this
        omega
      have HX := Aside0.mk hx
      have HCC := Aside0.mk hc
      have i0 : (0 : Int) ≤ (j : Int) := by omega
      have i1 : (j : Int) < (g.f2.length : Int) := by omega
      clear hx hl hc
      go_wp2_with fail
      have cpb := CP.out.below (below_drew (Below.refl _ _))
      have hrb := Kd.R_drew HR.out
      have hsb := Kd.S_drew HS.out
      have hszd : wr.drew.heap.size = wr.heap.size := rfl
      refine start_ (n := 13) (S := fun w' => w'.cell? ⟨go_, 2, none⟩ = some (v2) ∧ w'.cell? ⟨gb_, 2, none⟩ = some (.slice (some a2) g.f2.length c2) ∧ w'.cell? (a2.add j) = some (.slice A0 (g.f2[j]).length c0) ∧ True) (ds := [12]) #[false, false, false, false, false, false, false, false, false, false, false, false, false] hmx rfl rfl ⟨(blk_cell cpb.o 2).trans rfl, (blk_cell cpb.b 2).trans rfl, cell_below cpb.B HX.out, trivial⟩ (fun hHeld => ?_)
      clear CP HR HS z2_
      rw [← hszd] at hsz
      clear hszd
      generalize wr.drew = Wb at cpb hrb hsb hsz hHeld ⊢
      (refine pure_ (i := 0) (N := some 22) (v := ?_) (a' := ?_) #[true, false, false, false, false, false, false, false, false, false, false, false, false] rfl rfl (by kernel_rfl) (fun _ _ _ h => h) (Or.inl ⟨by rfl, ?_⟩) ?_ ?_; rotate_left; (focus (intro w'_; go_simp; with_reducible rfl)); rotate_left; (focus (simp only [Act.put, List.setIfInBounds_toArray, List.set_cons_zero, List.set_cons_succ]; rfl)))
      (refine pure_ (i := 3) (N := some 25) (v := ?_) (a' := ?_) #[true, false, false, true, false, false, false, false, false, false, false, false, false] rfl rfl (by kernel_rfl) (fun _ _ _ h => h) (Or.inl ⟨by rfl, ?_⟩) ?_ ?_; rotate_left; (focus (intro w'_; go_simp; with_reducible rfl)); rotate_left; (focus (simp only [Act.put, List.setIfInBounds_toArray, List.set_cons_zero, List.set_cons_succ]; rfl)))
      (refine pure_ (i := 5) (N := some 27) (v := ?_) (a' := ?_) #[true, false, false, true, false, true, false, false, false, false, false, false, false] rfl rfl (by kernel_rfl) (fun _ _ _ h => h) (Or.inl ⟨by rfl, ?_⟩) ?_ ?_; rotate_left; (focus (intro w'_; go_simp; with_reducible rfl)); rotate_left; (focus (simp only [Act.put, List.setIfInBounds_toArray, List.set_cons_zero, List.set_cons_succ]; rfl)))
      (refine take_ (i := 1) (N := some 23) (v := ?_) (a' := ?_) #[true, true, false, true, false, true, false, false, false, false, false, false, false] rfl rfl (by kernel_rfl) (fun _ _ _ h => h) (Or.inl ⟨by rfl, ?_⟩) hHeld ?_ ?_; rotate_left; (focus (intro w'_ hs_; (repeat obtain ⟨_, hs_⟩ := hs_); go_simp; with_reducible rfl)); rotate_left; (focus (simp only [Act.put, List.setIfInBounds_toArray, List.set_cons_zero, List.set_cons_succ]; rfl)))
      (refine take_ (i := 4) (N := some 26) (v := ?_) (a' := ?_) #[true, true, false, true, true, true, false, false, false, false, false, false, false] rfl rfl (by kernel_rfl) (fun _ _ _ h => h) (Or.inl ⟨by rfl, ?_⟩) hHeld ?_ ?_; rotate_left; (focus (intro w'_ hs_; (repeat obtain ⟨_, hs_⟩ := hs_); go_simp; with_reducible rfl)); rotate_left; (focus (simp only [Act.put, List.setIfInBounds_toArray, List.set_cons_zero, List.set_cons_succ]; rfl)))
      (refine pure_ (i := 6) (N := some 28) (v := ?_) (a' := ?_) #[true, true, false, true, true, true, true, false, false, false, false, false, false] rfl rfl (by kernel_rfl) (fun _ _ _ h => h) (Or.inl ⟨by rfl, ?_⟩) ?_ ?_; rotate_left; (focus (intro w'_; go_simp; with_reducible rfl)); rotate_left; (focus (simp only [Act.put, List.setIfInBounds_toArray, List.set_cons_zero, List.set_cons_succ]; rfl)))
      (refine take_ (i := 7) (N := some 29) (v := ?_) (a' := ?_) #[true, true, false, true, true, true, true, true, false, false, false, false, false] rfl rfl (by kernel_rfl) (fun _ _ _ h => h) (Or.inl ⟨by rfl, ?_⟩) hHeld ?_ ?_; rotate_left; (focus (intro w'_ hs_; (repeat obtain ⟨_, hs_⟩ := hs_); go_simp; with_reducible rfl)); rotate_left; (focus (simp only [Act.put, List.setIfInBounds_toArray, List.set_cons_zero, List.set_cons_succ]; rfl)))
      refine one_ (i := 2) (N := some 24) #[true, true, true, true, true, true, true, true, false, false, false, false, false] rfl rfl (by kernel_rfl) (by decide) (fun K hK => ?_)
      (refine value_ (w1 := ?_) (v := ?_) (by rfl) rfl ?_ ?_; rotate_left 2; (focus (go_simp; constructor <;> rfl)))
      have he1 : Kd.R kPt 59 (Wb.alloc (.cells #[] 59)) Wb.heap.size (fun _ => True) (.slice (some ⟨Wb.heap.size, 0, none⟩) 0 0) [] := R_pts0 Wb (Nat.le_refl _) _ trivial
      have hb0 : Below Wb.heap.size Wb (Wb.alloc (.cells #[] 59)) := below_alloc (Below.refl _ _) _
      obtain ⟨be, hbe⟩ : ∃ v, v = Wb.heap.size := ⟨_, rfl⟩
      obtain ⟨X1, hX1⟩ : ∃ x, x = Wb.alloc (.cells #[] 59) := ⟨_, rfl⟩
      rw [← hX1] at he1 hb0 ⊢
      have he2 : Kd.R kPt 59 X1 Wb.heap.size (fun _ => True) (.slice (some ⟨be, 0, none⟩) 0 0) [] := by rw [hbe]; exact he1
      rw [← hbe]
      clear hbe hX1 he1
      have cp0 := cpb.below hb0
      refine hK.out _ _ ⟨(blk_cell cp0.o 2).trans rfl, (blk_cell cp0.b 2).trans rfl, cell_below cp0.B HX.out, trivial⟩ (fun hHeld2 => ?_)
      clear hK K hHeld
      (refine norm_ (a' := ?_) ?_ ?_; rotate_left; focus (show Act.put _ (some 24) _ = _; simp only [Act.put, List.setIfInBounds_toArray, List.set_cons_zero, List.set_cons_succ]; rfl))
      refine one_ (i := 8) (N := some 30) #[true, true, true, true, true, true, true, true, true, false, false, false, false] rfl rfl (by kernel_rfl) (by decide) (fun K hK => ?_)
      refine Kd.R_append_rows_step kPt (w0 := Wb) Wb.heap.size (by rfl) (.tmp 24) (.tmp 29) 22 59 (.agg #[.int .u64 0, .int .u64 0]) 16 rfl Try.underlying22 infoPt rfl (by decide) (by omega) (.slice (some ⟨be, 0, none⟩) 0 0) [] g.f2[j] _ _ _ (fun _ => True) (fun _ => False) rfl rfl ?aO ?aR (fun _ _ h => h) (fun _ h => h.elim) ?aF ?aB ?aS ?aL ?_
      case aO => exact he2
      case aR => exact Kd.C_below HCC.out cp0.B
      case aF => exact fun _ _ => trivial
      case aB => exact hb0
      case aS => exact hb0.size
      case aL => show (0 + (g.f2[j]).length) * 16 ≤ _; omega
      intro vr w1 ho hb1 hg1 hat1
      rw [List.nil_append] at ho
      obtain ⟨A5, c5, e5⟩ := Kd.R_slice ho
      subst e5
      have cp := cpb.below hb1
      have hr2 := Kd.R_below hrb hb1
      have hs2 := Kd.S_old hsb hb1
      have hvlt := Kd.S_lt hsb
      have hsz1 : Wb.heap.size ≤ w1.heap.size := hb1.size
      have hgrown := Kd.R_bound ho
      clear cpb hrb hsb cp0 hat1 hg1
      refine hK.out _ _ ⟨(blk_cell cp.o 2).trans rfl, (blk_cell cp.b 2).trans rfl, cell_below cp.B HX.out, trivial⟩ (fun hHeld => ?_)
      clear hK K hHeld2 he2
      (refine norm_ (a' := ?_) ?_ ?_; rotate_left; focus (show Act.put _ (some 30) _ = _; simp only [Act.put, List.setIfInBounds_toArray, List.set_cons_zero, List.set_cons_succ]; rfl))
      refine one_ (i := 9) (N := some 31) #[true, true, true, true, true, true, true, true, true, true, false, false, false] rfl rfl (by kernel_rfl) (by decide) (fun K hK => ?_)
      (refine value_ (w1 := ?_) (v := ?_) (by rfl) rfl ?_ ?_; rotate_left 2; (focus (go_simp; constructor <;> rfl)))
      have cpa := cp.below (below_alloc (Below.refl _ w1) (.cells #[.slice A5 (g.f2[j]).length c5] 22))
      refine hK.out _ _ ⟨(blk_cell cpa.o 2).trans rfl, (blk_cell cpa.b 2).trans rfl, cell_below cpa.B HX.out, trivial⟩ (fun hHeld2 => ?_)
      clear hK K hHeld cpa
      (refine norm_ (a' := ?_) ?_ ?_; rotate_left; focus (show Act.put _ (some 31) _ = _; simp only [Act.put, List.setIfInBounds_toArray, List.set_cons_zero, List.set_cons_succ]; rfl))
      refine one_ (i := 10) (N := some 32) #[true, true, true, true, true, true, true, true, true, true, true, false, false] rfl rfl (by kernel_rfl) (by decide) (fun K hK => ?_)
      refine Kd.S_append_step (Kd.slice 59 kPt) (w0 := w) w.heap.size (by rfl) (.tmp 23) (.tmp 31) 23 22 (.slice none 0 0) 24 rfl Try.underlying23 infoPts rfl (by decide) (by omega) v2 (g.f2.take j) g.f2[j] [.slice A5 (g.f2[j]).length c5] (fun k => W1.heap.size ≤ k) (fun k => Wb.heap.size ≤ k) rfl rfl ?aP ?aK ?aF ?aO ?aB ?aS ?aL ?_
      case aP => exact Kd.M_row (Kd.R_lower (Kd.R_mono hgrown (fun k h => h.2.1)) (by have := hge.1; show w.heap.size ≤ Wb.heap.size; omega))
      case aK => exact fun k h => ⟨by omega, fun e => by have := hvlt k e.symm; omega⟩
      case aF => exact fun k h => by omega
      case aO => exact Kd.S_mono hs2 (fun k h => ⟨h.1, by have := h.2; show ¬ _ ≤ k; omega⟩)
      case aB => exact cp.B
      case aS => have := hge.1; omega
      case aL => rw [List.length_take]; omega
      intro v3 w2 ho2 hb2 hg2 hat2
      obtain ⟨T, hT⟩ : ∃ T, T = List.take j g.f2 ++ [g.f2[j]] := ⟨_, rfl⟩
      rw [← hT] at ho2
      rw [← List.take_succ_eq_append_getElem hlt] at hT
      have HT := Aside0.mk hT
      clear hT
      obtain ⟨A6, c6, e6⟩ := Kd.S_slice ho2
      subst e6
      have hown : ∀ k, v2.ownBlock = some k → W1.heap.size ≤ k := fun k e => (Kd.S_R hs2).1 k e |>.1
      have cp2 := cp.grown hg2 hb2 (fun e => by have := hown _ e.symm; omega) (fun e => by have := hown _ e.symm; omega) (fun e => by have := hown _ e.symm; omega)
      have hr3 := Kd.R_grown hr2 hg2 (fun k h e => by have := hown _ e.symm; omega)
      have hsz2 : Wb.heap.size ≤ w2.heap.size := Nat.le_trans hsz1 hg2.size
      clear cp hr2 hs2
      refine hK.out _ _ ⟨(blk_cell cp2.o 2).trans rfl, (blk_cell cp2.b 2).trans rfl, cell_below cp2.B HX.out, trivial⟩ (fun hHeld => ?_)
      clear hK K hHeld2
      (refine norm_ (a' := ?_) ?_ ?_; rotate_left; focus (show Act.put _ (some 32) _ = _; simp only [Act.put, List.setIfInBounds_toArray, List.set_cons_zero, List.set_cons_succ]; rfl))
      (refine pure_ (i := 11) (N := some 33) (v := ?_) (a' := ?_) #[true, true, true, true, true, true, true, true, true, true, true, true, false] rfl rfl (by kernel_rfl) (fun _ _ _ h => h) (Or.inl ⟨by rfl, ?_⟩) ?_ ?_; rotate_left; (focus (intro w'_; go_simp; with_reducible rfl)); rotate_left; (focus (simp only [Act.put, List.setIfInBounds_toArray, List.set_cons_zero, List.set_cons_succ]; rfl)))
      refine last_ (i := 12) (N := none) #[true, true, true, true, true, true, true, true, true, true, true, true, true] rfl rfl (by kernel_rfl) (by decide) (fun K hK => ?_)
      have hs0 : w2.cell? ⟨go_, 2, none⟩ = some v2 := (blk_cell cp2.o 2).trans rfl
      have hf0 := blk_frozen cp2.o 2
      refine skip_ (w1 := ?_) (by rfl) rfl ?_ ?_
      rotate_left
      · go_simp
        rfl
      refine hK.out _ _ ?_
      clear hK K
      refine done_ (by kernel_rfl) ?_
      have cp3 := cp2.set2 (by omega) (by omega) (by omega) (.slice A6 T.length c6)
      have hr4 := Kd.R_far (p := ⟨go_, 2, none⟩) hr3 (fun k h => h.2) (.slice A6 T.length c6)
      have hs4 := Kd.S_set ho2 cp2.o (by decide) 2 (.slice A6 T.length c6)
      clear cp2 hr3 ho2 hs0 hf0 hHeld
      have hsz3 : W1.heap.size ≤ (w2.setCell ⟨go_, 2, none⟩ (.slice A6 T.length c6)).heap.size := by simp; omega
      go_wp2_with fail
      go_roundg kq
      case measure => omega
      case rel => exact ⟨j + 1, _, by omega, by go_num, hsz3, ⟨cp3⟩, ⟨hr4⟩, ⟨by rw [← HT.out]; exact hs4⟩⟩
end Go.Proofs.Ytmcbniobbbjdjaa.Tree
