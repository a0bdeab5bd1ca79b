/- The laws' kept by contract: a roomy tree is told as kept. No conditions but those told. -/
import Derived.Test.YtmcbniobbbjdjaaDoorTRoom
import Derived.Test.YtmcbniobbbjdjaaDoorTSame
namespace Go.Proofs.YtmcbniobbbjdjaaDoor.Tree
open Go.RowKit Go.Proofs.YtmcbniobbbjdjaaDoorW.PrintWords Go.Proofs.YtmcbniobbbjdjaaDoorW.PrintLast Go.Proofs.YtmcbniobbbjdjaaDoorW.PrintMore
set_option linter.unusedVariables false
set_option linter.unusedSimpArgs false
/-- The mark behind a list of points. -/
theorem at_mark {w : World} {A : Option Addr} {l : List Pt} (h : Kd.C kPt w A (l.length + 1) (l ++ [mark])) : ∃ ad, A = some ad ∧ w.cell? (ad.add (l.length * 2)) = some (.int .u64 42405) ∧ w.cell? ⟨(ad.add (l.length * 2)).block, (ad.add (l.length * 2)).off + 1, none⟩ = some (.int .u64 42406) := by
  obtain ⟨ad, e, h0, h1⟩ := at_Pt h (l.length : Int) (by omega) (by omega)
  have hr : rd_Pt (l ++ [mark]) (l.length : Int) = mark := by
    unfold rd_Pt
    rw [Int.toNat_natCast, List.getD_eq_getElem?_getD, List.getElem?_append_right (Nat.le_refl _), Nat.sub_self]
    rfl
  rw [hr, Int.toNat_natCast] at h0 h1
  exact ⟨ad, e, h0, h1⟩
theorem C_at {α : Type} {d : Kd α} {w : World} {A : Option Addr} {n i : Nat} {xs : List α} {x : α} (h : d.C w A n xs) (hi : xs[i]? = some x) : ∃ ad c, A = some ad ∧ d.K w x c ∧ ∀ j u, c[j]? = some u → w.cell? (ad.add (i * d.sz + j)) = some u := by
  obtain ⟨hl, _, hc⟩ := h
  have hlt := (List.getElem?_eq_some_iff.1 hi).1
  obtain ⟨ad, e, hc⟩ := hc (by omega)
  obtain ⟨c, _, h2, h3⟩ := hc i x hi
  exact ⟨ad, c, e, h2, h3⟩
theorem at_ring {w : World} {A : Option Addr} {n : Nat} {g : Ge} (h : kRing.C w A n (ringsOf g)) (j : Nat) (hj : j < g.f2.length) :
    ∃ ad B c, A = some ad ∧ w.cell? (ad.add j) = some (.slice B (g.f2[j]).length c) ∧ (g.f2[j]).length + 1 ≤ c ∧ kPt.C w B ((g.f2[j]).length + 1) (g.f2[j] ++ [mark]) := by
  obtain ⟨ad, cs, e, hk, hc⟩ := C_at (i := j) (x := (g.f2[j], true)) h (by unfold ringsOf; rw [List.getElem?_append_left (by simpa using hj), List.getElem?_map, List.getElem?_eq_getElem hj]; rfl)
  obtain ⟨B, c, rfl, h1, h2⟩ := hk
  refine ⟨ad, B, c, e, ?_, h1, h2⟩
  have := hc 0 _ rfl
  have e1 : kRing.sz = 1 := rfl
  rw [e1, Nat.mul_one, Nat.add_zero] at this
  exact this
theorem at_ringEnd {w : World} {A : Option Addr} {n : Nat} {g : Ge} (h : kRing.C w A n (ringsOf g)) :
    ∃ ad B c, A = some ad ∧ w.cell? (ad.add g.f2.length) = some (.slice (some B) 1 c) ∧ 1 ≤ c ∧ w.cell? B = some (.int .u64 42405) ∧ w.cell? ⟨B.block, B.off + 1, none⟩ = some (.int .u64 42406) := by
  obtain ⟨ad, cs, e, hk, hc⟩ := C_at (i := g.f2.length) (x := ([mark], false)) h (by unfold ringsOf; rw [List.getElem?_append_right (by simp)]; simp)
  obtain ⟨B, c, rfl, h1, h2⟩ := hk
  obtain ⟨B', eB, p0, p1⟩ := at_Pt h2 0 (by omega) (by decide)
  have ez : B'.add ((0 : Int).toNat * 2) = B' := by cases B'; simp [Addr.add]
  rw [ez] at p0 p1
  refine ⟨ad, B', c, e, ?_, h1, p0, p1⟩
  have := hc 0 _ rfl
  have e1 : kRing.sz = 1 := rfl
  rw [e1, Nat.mul_one, Nat.add_zero] at this
  rw [← eB]; exact this
theorem at_partEnd {w : World} {A : Option Addr} {n m : Nat} {g : Ge} (h : (kPart (kRm m)).C w A n (partsOf g)) :
    ∃ ad, A = some ad ∧ w.cell? (ad.add (g.f3.length * 4)) = some (.int .i64 77) := by
  obtain ⟨ad, cs, e, hk, hc⟩ := C_at (i := g.f3.length) (x := none) h (by unfold partsOf; rw [List.getElem?_append_right (by simp)]; simp)
  refine ⟨ad, e, ?_⟩
  have := hc 0 _ hk.2.2
  have e1 : (kPart (kRm m)).sz = 4 := kRm_sz m
  rw [e1, Nat.add_zero] at this
  exact this
theorem at_part {w : World} {A : Option Addr} {n m : Nat} {g : Ge} (h : (kPart (kRm m)).C w A n (partsOf g)) (j : Nat) (hj : j < g.f3.length) :
    ∃ ad B1 d1 B2 d2 B3 d3, A = some ad ∧ RoomyAt m w (.agg #[.int .i64 (g.f3[j]).f0, .slice B1 (g.f3[j]).f1.length d1, .slice B2 (g.f3[j]).f2.length d2, .slice B3 (g.f3[j]).f3.length d3]) g.f3[j] ∧
      w.cell? (ad.add (j * 4)) = some (.int .i64 (g.f3[j]).f0) ∧ w.cell? ⟨(ad.add (j * 4)).block, (ad.add (j * 4)).off + 1, none⟩ = some (.slice B1 (g.f3[j]).f1.length d1) ∧ w.cell? ⟨(ad.add (j * 4)).block, (ad.add (j * 4)).off + 2, none⟩ = some (.slice B2 (g.f3[j]).f2.length d2) ∧ w.cell? ⟨(ad.add (j * 4)).block, (ad.add (j * 4)).off + 3, none⟩ = some (.slice B3 (g.f3[j]).f3.length d3) := by
  obtain ⟨ad, cs, e, hk, hc⟩ := C_at (i := j) (x := some g.f3[j]) h (by unfold partsOf; rw [List.getElem?_append_left (by simpa using hj), List.getElem?_map, List.getElem?_eq_getElem hj]; rfl)
  have hk' : (kRm m).K w g.f3[j] cs := hk
  obtain ⟨B1, d1, B2, d2, B3, d3, rfl, _⟩ := kGe_open (kRm_isK m _ _ _ hk')
  have e1 : (kPart (kRm m)).sz = 4 := kRm_sz m
  rw [e1] at hc
  exact ⟨ad, B1, d1, B2, d2, B3, d3, e, ⟨_, rfl, hk'⟩, hc 0 _ rfl, by rw [← add_field _ _ 1 (by omega)]; exact hc 1 _ rfl, by rw [← add_field _ _ 2 (by omega)]; exact hc 2 _ rfl, by rw [← add_field _ _ 3 (by omega)]; exact hc 3 _ rfl⟩
set_option maxRecDepth 100000 in
set_option maxHeartbeats 8000000 in
theorem kept_calls (n : Nat) : ∀ (v u : Value) (g : Ge) (w : World), RoomyAt n w v g → IsG w u g → g.bulk ≤ 1073741824 →
    Calls Tryd.prog 13 #[v, u] w fun e w' => e = .returned (.bool true) ∧ Below w.heap.size w w' := by
  induction n with
  | zero => rintro v u g w ⟨cs, _, h⟩; exact h.elim
  | succ n ih =>
  rintro v u g w ⟨cs, rfl, hk⟩ hu hbk
  rw [kRm_K] at hk
  obtain ⟨D1, d1, D2, d2, D3, d3, rfl, m1, k1, m2, k2, m3, k3⟩ := hk
  obtain ⟨A1, c1, A2, c2, A3, c3, rfl, l1, h1, l2, h2, l3, h3⟩ := hu
  have hbq := g.bulk_eq
  have hb1 : g.f1.length ≤ 1073741824 := by omega
  have hb2 : g.f2.length ≤ 1073741824 := by omega
  have hb3 : g.f3.length ≤ 1073741824 := by have := bulks_len g.f3; omega
  have hun := Tryd.underlying26
  have hup := Tryd.underlying65
  have H1 := Aside0.mk h1
  have H2 := Aside0.mk h2
  have H3 := Aside0.mk h3
  have K1 := Aside0.mk k1
  have K2 := Aside0.mk k2
  have K3 := Aside0.mk k3
  have HBQ := Aside0.mk (And.intro hbk hbq)
  have IH := Aside0.mk ih
  clear h1 h2 h3 k1 k2 k3 ih hbk hbq
  have hmx : Tryd.prog.follows .mixedOrders = true := by kernel_rfl
  obtain ⟨e1, he1, p0, p1⟩ := at_mark K1.out
  subst he1
  go_enter Tryd.func13, Tryd.ntmps13
  go_wp2_with fail
  obtain ⟨gh, hgh⟩ : ∃ x, x = w.heap.size := ⟨_, rfl⟩
  obtain ⟨gg, hgg⟩ : ∃ x, x = w.heap.size + 1 := ⟨_, rfl⟩
  obtain ⟨gm, hgm⟩ : ∃ x, x = w.heap.size + 1 + 1 := ⟨_, rfl⟩
  obtain ⟨W0, hW0⟩ : ∃ x, x = (((w.alloc (.cells #[.int .i64 g.f0, .slice (some e1) g.f1.length d1, .slice D2 g.f2.length d2, .slice D3 g.f3.length d3] 26)).alloc (.cells #[.int .i64 g.f0, .slice A1 g.f1.length c1, .slice A2 g.f2.length c2, .slice A3 g.f3.length c3] 26)).alloc (.cells #[.int .u64 42405, .int .u64 42406] 65)) := ⟨_, rfl⟩
  rw [← hW0, ← hgm, ← hgg, ← hgh]
  have BH := Aside0.mk (show W0.heap[gh]? = some (.cells #[.int .i64 g.f0, .slice (some e1) g.f1.length d1, .slice D2 g.f2.length d2, .slice D3 g.f3.length d3] 26 (0, 0)) by rw [hW0, hgh]; exact blk_alloc (blk_alloc (World.alloc_heap_new _ _) _) _)
  have BG := Aside0.mk (show W0.heap[gg]? = some (.cells #[.int .i64 g.f0, .slice A1 g.f1.length c1, .slice A2 g.f2.length c2, .slice A3 g.f3.length c3] 26 (0, 0)) by
    rw [hW0, hgg]
    have h := World.alloc_heap_new (w.alloc (.cells #[.int .i64 g.f0, .slice (some e1) g.f1.length d1, .slice D2 g.f2.length d2, .slice D3 g.f3.length d3] 26)) (.cells #[.int .i64 g.f0, .slice A1 g.f1.length c1, .slice A2 g.f2.length c2, .slice A3 g.f3.length c3] 26)
    exact blk_alloc (by simpa using h) _)
  have BM := Aside0.mk (show W0.heap[gm]? = some (.cells #[.int .u64 42405, .int .u64 42406] 65 (0, 0)) by
    rw [hW0, hgm]
    have h := World.alloc_heap_new ((w.alloc (.cells #[.int .i64 g.f0, .slice (some e1) g.f1.length d1, .slice D2 g.f2.length d2, .slice D3 g.f3.length d3] 26)).alloc (.cells #[.int .i64 g.f0, .slice A1 g.f1.length c1, .slice A2 g.f2.length c2, .slice A3 g.f3.length c3] 26)) (.cells #[.int .u64 42405, .int .u64 42406] 65)
    simpa using h)
  have HB := Aside0.mk (show Below w.heap.size w W0 by rw [hW0]; exact below_alloc (below_alloc (below_alloc (Below.refl _ _) _) _) _)
  clear hW0 hgh hgg hgm
  have p0' := cell_below HB.out p0
  have p1' := cell_below HB.out p1
  clear p0 p1
  have z1 : W0.cell? ⟨gh, 1, none⟩ = some (.slice (some e1) g.f1.length d1) := (blk_cell BH.out 1).trans rfl
  have z2 : W0.cell? ⟨gh, 2, none⟩ = some (.slice D2 g.f2.length d2) := (blk_cell BH.out 2).trans rfl
  have z3 : W0.cell? ⟨gh, 3, none⟩ = some (.slice D3 g.f3.length d3) := (blk_cell BH.out 3).trans rfl
  have y1 : W0.cell? ⟨gg, 1, none⟩ = some (.slice A1 g.f1.length c1) := (blk_cell BG.out 1).trans rfl
  have y2 : W0.cell? ⟨gg, 2, none⟩ = some (.slice A2 g.f2.length c2) := (blk_cell BG.out 2).trans rfl
  have y3 : W0.cell? ⟨gg, 3, none⟩ = some (.slice A3 g.f3.length c3) := (blk_cell BG.out 3).trans rfl
  have x0 : W0.cell? ⟨gm, 0, none⟩ = some (.int .u64 42405) := (blk_cell BM.out 0).trans rfl
  have x1 : W0.cell? ⟨gm, 1, none⟩ = some (.int .u64 42406) := (blk_cell BM.out 1).trans rfl
  have HCQ := Aside0.mk (fun W (hb : Below w.heap.size w W) => eqLines_calls (some e1) A1 d1 c1 g.f1 g.f1 W (C_front (Kd.C_below K1.out hb) rfl rfl (fun j x y cs hx hy hk => by rw [hx] at hy; cases hy; exact hk)) (Kd.C_below H1.out hb) hb1)
  rw [eqL_true rfl] at HCQ
  go_wp2_with fail
  go_quiet ((refine (HCQ.out _ (by repeat (first | exact HB.out | apply pw_below_drewN))).mono ?_; rintro e w' ⟨rfl, nd, rfl⟩; exact ⟨rfl, _, World.drewN_drewN _ _ _⟩))
  go_wp2_with fail
  go_loopg [7] g.f2.length (fun kq i wr => ∃ j : Nat, j + kq = g.f2.length ∧ i = .int .i64 (j : Int) ∧ ∃ m, wr = W0.drewN m)
  case atStart => exact ⟨0, by omega, rfl, nq, rfl⟩
  case round =>
    obtain ⟨j, hj, rfl, m, rfl⟩ := hrel
    cases gk with
    | zero =>
      have hlt : ¬ ((j : Int) < (g.f2.length : Int)) := by omega
      obtain rfl : j = g.f2.length := by omega
      obtain ⟨e2, E2, ec2, he2, r0, r1, r2, r3⟩ := at_ringEnd K2.out
      obtain ⟨e3, he3, r4⟩ := at_partEnd K3.out
      subst he2 he3
      have r0' := cell_below HB.out r0
      have r2' := cell_below HB.out r2
      have r3' := cell_below HB.out r3
      have r4' := cell_below HB.out r4
      clear r0 r2 r3 r4
      go_wp2_with fail
      go_quiet (fail)
      go_wp2_with fail
      go_quiet (fail)
      go_wp2_with fail
      have Z3 := Aside0.mk z3
      have Y3 := Aside0.mk y3
      clear r0' r2' r3' r4' p0' p1' z1 z2 z3 y1 y2 x0 x1 hj
      go_loopg [10] g.f3.length (fun kq i wr => ∃ j : Nat, j + kq = g.f3.length ∧ i = .int .i64 (j : Int) ∧ Aside0 (Below W0.heap.size W0 wr))
      case atStart => exact ⟨0, by omega, rfl, ⟨by repeat (first | exact Below.refl _ _ | apply pw_below_drewN)⟩⟩
      case round =>
        obtain ⟨j, hj, rfl, HW⟩ := hrel
        have y3' := cell_below HW.out y3
        cases gk with
        | zero =>
          have hlt : ¬ ((j : Int) < (g.f3.length : Int)) := by omega
          obtain rfl : j = g.f3.length := by omega
          go_wp2_with fail
          go_ret
          exact ⟨rfl, below_step HB.out HW.out⟩
        | succ kq =>
          have hlt : j < g.f3.length := by omega
          obtain ⟨q3, B1, b1, B2, b2, B3, b3, eh, hro, u0, u1, u2, u3⟩ := at_part K3.out j hlt
          cases eh
          obtain ⟨a3, F1, f1, F2, f2, F3, f3, ea, t0, t1, t2, t3, n1, o1, n2, o2, n3, o3⟩ := at_Ge H3.out j (by omega) (by omega)
          subst ea
          rw [rd_Ge_at _ _ hlt] at t0 t1 t2 t3 o1 o2 o3 n1 n2 n3
          rw [Int.toNat_natCast] at t0 t1 t2 t3
          have HRO := Aside0.mk hro
          have HIS := Aside0.mk (show IsG w (.agg #[.int .i64 (g.f3[j]).f0, .slice F1 (g.f3[j]).f1.length f1, .slice F2 (g.f3[j]).f2.length f2, .slice F3 (g.f3[j]).f3.length f3]) g.f3[j] from ⟨F1, f1, F2, f2, F3, f3, rfl, n1, o1, n2, o2, n3, o3⟩)
          have U0 := Aside0.mk (cell_below HB.out u0)
          have U1 := Aside0.mk (cell_below HB.out u1)
          have U2 := Aside0.mk (cell_below HB.out u2)
          have U3 := Aside0.mk (cell_below HB.out u3)
          have V0 := Aside0.mk (cell_below HB.out t0)
          have V1 := Aside0.mk (cell_below HB.out t1)
          have V2 := Aside0.mk (cell_below HB.out t2)
          have V3 := Aside0.mk (cell_below HB.out t3)
          have hpb : (g.f3[j]).bulk ≤ 1073741824 := by have := bulks_mem (List.getElem_mem hlt); have := HBQ.out.1; have := HBQ.out.2; omega
          clear hro u0 u1 u2 u3 t0 t1 t2 t3 n1 o1 n2 o2 n3 o3
          go_wp2_with fail
          refine start_ (n := 12) (S := fun w' => w'.cell? ⟨gh, 3, none⟩ = some (.slice (some e3) g.f3.length d3) ∧ w'.cell? ⟨gg, 3, none⟩ = some (.slice (some a3) g.f3.length c3) ∧ w'.cell? (e3.add (j * 4)) = some (.int .i64 (g.f3[j]).f0) ∧ w'.cell? ⟨(e3.add (j * 4)).block, (e3.add (j * 4)).off + 1, none⟩ = some (.slice B1 (g.f3[j]).f1.length b1) ∧ w'.cell? ⟨(e3.add (j * 4)).block, (e3.add (j * 4)).off + 2, none⟩ = some (.slice B2 (g.f3[j]).f2.length b2) ∧ w'.cell? ⟨(e3.add (j * 4)).block, (e3.add (j * 4)).off + 3, none⟩ = some (.slice B3 (g.f3[j]).f3.length b3) ∧ w'.cell? (a3.add (j * 4)) = some (.int .i64 (g.f3[j]).f0) ∧ w'.cell? ⟨(a3.add (j * 4)).block, (a3.add (j * 4)).off + 1, none⟩ = some (.slice F1 (g.f3[j]).f1.length f1) ∧ w'.cell? ⟨(a3.add (j * 4)).block, (a3.add (j * 4)).off + 2, none⟩ = some (.slice F2 (g.f3[j]).f2.length f2) ∧ w'.cell? ⟨(a3.add (j * 4)).block, (a3.add (j * 4)).off + 3, none⟩ = some (.slice F3 (g.f3[j]).f3.length f3) ∧ True) (ds := []) #[false, false, false, false, false, false, false, false, false, false, false, false] hmx rfl rfl ⟨cell_below (below_drew HW.out) Z3.out, cell_below (below_drew HW.out) Y3.out, cell_below (below_drew HW.out) U0.out, cell_below (below_drew HW.out) U1.out, cell_below (below_drew HW.out) U2.out, cell_below (below_drew HW.out) U3.out, cell_below (below_drew HW.out) V0.out, cell_below (below_drew HW.out) V1.out, cell_below (below_drew HW.out) V2.out, cell_below (below_drew HW.out) V3.out, trivial⟩ (fun hHeld => ?_)
          have i0 : (0 : Int) ≤ (j : Int) := by omega
          have i1 : (j : Int) < (g.f3.length : Int) := by omega
          have HWd := Aside0.mk (below_drew HW.out)
          clear y3' y3
          generalize wr.drew = Wd at HWd hHeld ⊢
          (refine pure_ (i := 0) (N := some 148) (v := ?_) (a' := ?_) #[true, false, false, false, false, false, false, false, false, false, false, false] rfl rfl (by kernel_rfl) (fun _ _ _ h => h) (Or.inl ⟨by rfl, ?_⟩) ?_ ?_; rotate_left; (focus (intro w'_; go_simp; with_reducible rfl)); rotate_left; (focus (simp only [Act.put, List.setIfInBounds_toArray, List.set_cons_zero, List.set_cons_succ]; rfl)))
          (refine pure_ (i := 2) (N := some 150) (v := ?_) (a' := ?_) #[true, false, true, false, false, false, false, false, false, false, false, false] rfl rfl (by kernel_rfl) (fun _ _ _ h => h) (Or.inl ⟨by rfl, ?_⟩) ?_ ?_; rotate_left; (focus (intro w'_; go_simp; with_reducible rfl)); rotate_left; (focus (simp only [Act.put, List.setIfInBounds_toArray, List.set_cons_zero, List.set_cons_succ]; rfl)))
          (refine pure_ (i := 5) (N := some 153) (v := ?_) (a' := ?_) #[true, false, true, false, false, true, false, false, false, false, false, false] rfl rfl (by kernel_rfl) (fun _ _ _ h => h) (Or.inl ⟨by rfl, ?_⟩) ?_ ?_; rotate_left; (focus (intro w'_; go_simp; with_reducible rfl)); rotate_left; (focus (simp only [Act.put, List.setIfInBounds_toArray, List.set_cons_zero, List.set_cons_succ]; rfl)))
          (refine pure_ (i := 7) (N := some 155) (v := ?_) (a' := ?_) #[true, false, true, false, false, true, false, true, false, false, false, false] rfl rfl (by kernel_rfl) (fun _ _ _ h => h) (Or.inl ⟨by rfl, ?_⟩) ?_ ?_; rotate_left; (focus (intro w'_; go_simp; with_reducible rfl)); rotate_left; (focus (simp only [Act.put, List.setIfInBounds_toArray, List.set_cons_zero, List.set_cons_succ]; rfl)))
          (refine take_ (i := 1) (N := some 149) (v := ?_) (a' := ?_) #[true, true, true, false, false, true, false, true, false, false, false, false] rfl rfl (by kernel_rfl) (fun _ _ _ h => h) (Or.inl ⟨by rfl, ?_⟩) hHeld ?_ ?_; rotate_left; (focus (intro w'_ hs_; (repeat obtain ⟨_, hs_⟩ := hs_); go_simp; with_reducible rfl)); rotate_left; (focus (simp only [Act.put, List.setIfInBounds_toArray, List.set_cons_zero, List.set_cons_succ]; rfl)))
          (refine take_ (i := 6) (N := some 154) (v := ?_) (a' := ?_) #[true, true, true, false, false, true, true, true, false, false, false, false] rfl rfl (by kernel_rfl) (fun _ _ _ h => h) (Or.inl ⟨by rfl, ?_⟩) hHeld ?_ ?_; rotate_left; (focus (intro w'_ hs_; (repeat obtain ⟨_, hs_⟩ := hs_); go_simp; with_reducible rfl)); rotate_left; (focus (simp only [Act.put, List.setIfInBounds_toArray, List.set_cons_zero, List.set_cons_succ]; rfl)))
          (refine pure_ (i := 3) (N := some 151) (v := ?_) (a' := ?_) #[true, true, true, true, false, true, true, true, false, false, false, false] rfl rfl (by kernel_rfl) (fun _ _ _ h => h) (Or.inl ⟨by rfl, ?_⟩) ?_ ?_; rotate_left; (focus (intro w'_; go_simp; with_reducible rfl)); rotate_left; (focus (simp only [Act.put, List.setIfInBounds_toArray, List.set_cons_zero, List.set_cons_succ]; rfl)))
          (refine pure_ (i := 8) (N := some 156) (v := ?_) (a' := ?_) #[true, true, true, true, false, true, true, true, true, false, false, false] rfl rfl (by kernel_rfl) (fun _ _ _ h => h) (Or.inl ⟨by rfl, ?_⟩) ?_ ?_; rotate_left; (focus (intro w'_; go_simp; with_reducible rfl)); rotate_left; (focus (simp only [Act.put, List.setIfInBounds_toArray, List.set_cons_zero, List.set_cons_succ]; rfl)))
          (refine take_ (i := 4) (N := some 152) (v := ?_) (a' := ?_) #[true, true, true, true, true, true, true, true, true, false, false, false] rfl rfl (by kernel_rfl) (fun _ _ _ h => h) (Or.inl ⟨by rfl, ?_⟩) hHeld ?_ ?_; rotate_left; (focus (intro w'_ hs_; (repeat obtain ⟨_, hs_⟩ := hs_); go_simp; with_reducible rfl)); rotate_left; (focus (simp only [Act.put, List.setIfInBounds_toArray, List.set_cons_zero, List.set_cons_succ]; rfl)))
          (refine take_ (i := 9) (N := some 157) (v := ?_) (a' := ?_) #[true, true, true, true, true, true, true, true, true, true, false, false] rfl rfl (by kernel_rfl) (fun _ _ _ h => h) (Or.inl ⟨by rfl, ?_⟩) hHeld ?_ ?_; rotate_left; (focus (intro w'_ hs_; (repeat obtain ⟨_, hs_⟩ := hs_); go_simp; with_reducible rfl)); rotate_left; (focus (simp only [Act.put, List.setIfInBounds_toArray, List.set_cons_zero, List.set_cons_succ]; rfl)))
          refine one_ (i := 10) (N := some 158) #[true, true, true, true, true, true, true, true, true, true, true, false] rfl rfl (by kernel_rfl) (by decide) (fun K hK => ?_)
          refine goes_ Tryd.func13 (by kernel_rfl) rfl #[.agg #[.int .i64 (g.f3[j]).f0, .slice B1 (g.f3[j]).f1.length b1, .slice B2 (g.f3[j]).f2.length b2, .slice B3 (g.f3[j]).f3.length b3], .agg #[.int .i64 (g.f3[j]).f0, .slice F1 (g.f3[j]).f1.length f1, .slice F2 (g.f3[j]).f2.length f2, .slice F3 (g.f3[j]).f3.length f3]] (by rfl) rfl rfl (by (try simp only [List.map_toArray, List.map_cons, List.map_nil]); first | done | rfl) ?_
          have hbw := below_step HB.out HWd.out
          refine (IH.out _ _ g.f3[j] Wd (HRO.out.below hbw) (HIS.out.below hbw) hpb).mono ?_
          rintro e X1 ⟨rfl, hb1⟩
          have hw1 := below_step HWd.out hb1
          refine ⟨_, rfl, hK.out _ _ ⟨cell_below hw1 Z3.out, cell_below hw1 Y3.out, cell_below hw1 U0.out, cell_below hw1 U1.out, cell_below hw1 U2.out, cell_below hw1 U3.out, cell_below hw1 V0.out, cell_below hw1 V1.out, cell_below hw1 V2.out, cell_below hw1 V3.out, trivial⟩ (fun hHeld2 => ?_)⟩
          clear hK K
          (refine norm_ (a' := ?_) ?_ ?_; rotate_left; focus (show Act.put _ (some 158) _ = _; simp only [Act.put, List.setIfInBounds_toArray, List.set_cons_zero, List.set_cons_succ]; rfl))
          (refine pure_ (i := 11) (N := some 159) (v := ?_) (a' := ?_) #[true, true, true, true, true, true, true, true, true, true, true, true] rfl rfl (by kernel_rfl) (fun _ _ _ h => h) (Or.inl ⟨by rfl, ?_⟩) ?_ ?_; rotate_left; (focus (intro w'_; go_simp; with_reducible rfl)); rotate_left; (focus (simp only [Act.put, List.setIfInBounds_toArray, List.set_cons_zero, List.set_cons_succ]; rfl)))
          refine done_ (by kernel_rfl) ?_
          have HW1 := Aside0.mk hw1
          have y3 : W0.cell? ⟨gg, 3, none⟩ = some (.slice (some a3) g.f3.length c3) := Y3.out
          clear hw1 hb1 hbw hHeld hHeld2
          go_wp2_with fail
          go_roundg kq
          case measure => omega
          case rel => exact ⟨j + 1, by omega, by go_num, HW1⟩
    | succ kq =>
      have hlt : j < g.f2.length := by omega
      obtain ⟨a2, A0, c0, ea, hx, hl, hc⟩ := at_L2 H2.out j (by omega) (by omega)
      obtain ⟨a4, B0, b0, eb, hy, hm, hd⟩ := at_ring K2.out j hlt
      obtain ⟨e5, he5, r0, r1⟩ := at_mark hd
      subst ea eb he5
      rw [rd_L2_at _ _ hlt, Int.toNat_natCast] at hx
      rw [rd_L2_at _ _ hlt] at hc
      have hlen : (g.f2[j]).length ≤ 1073741824 := by
        have h1 := upTo_le g.f2 (j + 1)
        rw [upTo_succ g.f2 j hlt] at h1
        have := HBQ.out.1
        have := HBQ.out.2
        omega
      have HCR := Aside0.mk (fun W (hb : Below w.heap.size w W) => eqLines_calls (some e5) A0 b0 c0 g.f2[j] g.f2[j] W (C_front (Kd.C_below hd hb) rfl rfl (fun j x y cs hx hy hk => by rw [hx] at hy; cases hy; exact hk)) (Kd.C_below hc hb) hlen)
      rw [eqL_true rfl] at HCR
      have hx' := cell_below HB.out hx
      have hy' := cell_below HB.out hy
      have r0' := cell_below HB.out r0
      have r1' := cell_below HB.out r1
      have hj1 : (j : Int) < (g.f2.length : Int) := by omega
      clear hx hy r0 r1 hc hd hl
      go_wp2_with fail
      go_quiet ((refine (HCR.out _ (by repeat (first | exact HB.out | apply pw_below_drewN))).mono ?_; rintro e w' ⟨rfl, nd, rfl⟩; exact ⟨rfl, _, (World.drewN_drewN _ _ _).trans (congrArg W0.drewN (Nat.add_assoc _ _ _))⟩))
      go_wp2_with fail
      go_roundg kq
      case measure => omega
      case rel => exact ⟨j + 1, by omega, by go_num, _, rfl⟩
end Go.Proofs.YtmcbniobbbjdjaaDoor.Tree
