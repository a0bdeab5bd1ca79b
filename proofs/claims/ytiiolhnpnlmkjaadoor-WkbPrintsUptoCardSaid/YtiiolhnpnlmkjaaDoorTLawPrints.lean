/- The law WkbPrints by contract. No conditions but those told. -/
import Derived.Test.YtiiolhnpnlmkjaaDoorTPenG
import Derived.Test.YtiiolhnpnlmkjaaDoorTPrSem
import Derived.Test.YtiiolhnpnlmkjaaDoorPWkbPrintsx6
namespace Go.Proofs.YtiiolhnpnlmkjaaDoor.Tree
open Go.RowKit Go.Proofs.YtiiolhnpnlmkjaaDoor.PWkbPrints Go.Proofs.YtiiolhnpnlmkjaaDoorW.PrintWords Go.Proofs.YtiiolhnpnlmkjaaDoorW.PrintLast Go.Proofs.YtiiolhnpnlmkjaaDoorW.PrintMore
set_option linter.unusedVariables false
set_option linter.unusedSimpArgs false
attribute [local go_sem] Oper.semAt_some max2_int max_two min2_int min_two
set_option maxRecDepth 100000 in
set_option maxHeartbeats 16000000 in
theorem rmixed_calls (v : Value) (g : Ge) (O : Option Addr) (co : Nat) (os : List Bool) (w : World) (hv : IsG w v g) (ho : Kd.bool.C w O os.length os) (hbk : g.bulk ≤ 2097152) (hos : os.length ≤ 1152921504606846976) :
    Calls Tryd.prog 21 #[v, .slice O os.length co] w fun e w' => ∃ u, e = .returned (.tuple #[u, .int .i64 (codeOf (checkR g)), .int .i64 (placeOf (checkR g))]) ∧ kB.R 5 w' w.heap.size (fun _ => True) u (mixedB os g) ∧ Below w.heap.size w w' := by
  have hv' := hv
  obtain ⟨A1, c1, A2, c2, A3, c3, rfl, l1, h1, l2, h2, l3, h3⟩ := hv'
  have HV := Aside0.mk hv
  have HO := Aside0.mk ho
  clear hv ho h1 h2 h3
  go_enter Tryd.func21, Tryd.ntmps21
  go_wp2_with fail
  obtain ⟨gb, hgb⟩ : ∃ y, y = w.heap.size := ⟨_, rfl⟩
  obtain ⟨W1, hW1⟩ : ∃ y, y = w.alloc (.cells #[.int .i64 g.f0, .slice A1 g.f1.length c1, .slice A2 g.f2.length c2, .slice A3 g.f3.length c3] 28) := ⟨_, rfl⟩
  rw [← hW1, ← hgb]
  have HB1 := Aside0.mk (show Below w.heap.size w W1 by rw [hW1]; exact below_alloc (Below.refl _ _) _)
  have BK := Aside0.mk (show W1.heap[gb]? = some (.cells #[.int .i64 g.f0, .slice A1 g.f1.length c1, .slice A2 g.f2.length c2, .slice A3 g.f3.length c3] 28 (0, 0)) by rw [hW1, hgb]; exact World.alloc_heap_new _ _)
  clear hW1 hgb
  refine (rcheck_calls _ g W1 (HV.out.below HB1.out) (by omega)).mono ?_
  rintro e W2 ⟨rfl, hb2⟩
  have HB2 := Aside0.mk (below_step HB1.out hb2)
  have BK2 := Aside0.mk ((hb2.block gb (blk_lt BK.out)).trans BK.out)
  clear HB1 BK hb2
  rcases hck : checkR g with _ | ⟨a, c⟩
  · have q0 : codeOf none = 0 := rfl
    have q1 : placeOf none = -1 := rfl
    rw [q0, q1]
    have hb3 : Below W2.heap.size W2 (W2.alloc (.cells #[.slice none 0 0, .int .i64 0, .slice O os.length co] 99)) := below_alloc (Below.refl _ _) _
    have z0_ := pw_cell_below hb3 ((blk_cell BK2.out 0).trans rfl : W2.cell? ⟨gb, 0, none⟩ = some (.int .i64 g.f0))
    have z1_ := pw_cell_below hb3 ((blk_cell BK2.out 1).trans rfl : W2.cell? ⟨gb, 1, none⟩ = some (.slice A1 g.f1.length c1))
    have z2_ := pw_cell_below hb3 ((blk_cell BK2.out 2).trans rfl : W2.cell? ⟨gb, 2, none⟩ = some (.slice A2 g.f2.length c2))
    have z3_ := pw_cell_below hb3 ((blk_cell BK2.out 3).trans rfl : W2.cell? ⟨gb, 3, none⟩ = some (.slice A3 g.f3.length c3))
    have HP := Aside0.mk (show Pr 99 cfR W2 (W2.alloc (.cells #[.slice none 0 0, .int .i64 0, .slice O os.length co] 99)) W2.heap.size O co os 0 (.slice none 0 0) [] from
      ⟨World.alloc_heap_new _ _, Kd.R_nil _ _ _ _ _, Kd.C_below HO.out HB2.out, Nat.le_refl _, hb3⟩)
    clear hb3
    go_wp2_with fail
    refine (rgeom_calls g.bulk g W2 _ W2.heap.size O co os 0 _ [] _ (Nat.le_refl _) HP.out (HV.out.below HB2.out) (by simp; omega) (by omega) hos (kinds_of g.bulk g 1 0 (Nat.le_refl _) (AllS.of hck)) hbk).mono ?_
    rintro e W4 ⟨rfl, v4, hp4, -⟩
    obtain ⟨A4, c4, rfl⟩ := Kd.R_slice hp4.r
    have z0_ : W4.cell? ⟨W2.heap.size, 0, none⟩ = some (.slice A4 ([] ++ geoB os g 0).length c4) := (blk_cell hp4.c 0).trans rfl
    rw [List.nil_append] at z0_ hp4
    have HP4 := Aside0.mk hp4
    clear hp4 HP
    go_wp2_with fail
    refine bodyPost_ret (results_tmp3 rfl _ _ _) rfl ?_
    exact ⟨.slice A4 (geoB os g 0).length c4, by first | rfl | (rw [hck]; rfl), by rw [mixedB, if_pos hck]; exact Kd.R_lower (Kd.R_mono HP4.out.r (fun _ _ => trivial)) HB2.out.size, below_step HB2.out HP4.out.K⟩
  · have hne := code_some hck
    rw [← hck]
    have hx := hck
    obtain ⟨cc, hcc⟩ : ∃ y, y = codeOf (checkR g) := ⟨_, rfl⟩
    rw [← hx, ← hcc] at hne
    rw [← hcc]
    have hne' : (cc == 0) = false := beq_eq_false_iff_ne.2 hne
    have HCK := Aside0.mk hck
    have HCC := Aside0.mk hcc
    clear hck hx hcc
    go_wp2_with fail
    refine bodyPost_ret (results_tmp3 rfl _ _ _) rfl ?_
    exact ⟨.slice none 0 0, by first | rfl | (rw [← HCC.out]; rfl), by rw [mixedB, if_neg (by rw [HCK.out]; simp)]; exact Kd.R_nil _ _ _ _ _, HB2.out⟩
set_option maxRecDepth 100000 in
set_option maxHeartbeats 16000000 in
theorem rprint_calls (v : Value) (g : Ge) (le : Bool) (w : World) (hv : IsG w v g) (hbk : g.bulk ≤ 2097152) :
    Calls Tryd.prog 19 #[v, .bool le] w fun e w' => ∃ u, e = .returned (.tuple #[u, .int .i64 (codeOf (checkR g)), .int .i64 (placeOf (checkR g))]) ∧ kB.R 5 w' w.heap.size (fun _ => True) u (mixedB [le] g) ∧ Below w.heap.size w w' := by
  have hv' := hv
  obtain ⟨A1, c1, A2, c2, A3, c3, rfl, l1, h1, l2, h2, l3, h3⟩ := hv'
  have HV := Aside0.mk hv
  clear hv h1 h2 h3
  go_enter Tryd.func19, Tryd.ntmps19
  go_wp2_with fail
  have hba : Below w.heap.size w (w.alloc (.cells #[.int .i64 g.f0, .slice A1 g.f1.length c1, .slice A2 g.f2.length c2, .slice A3 g.f3.length c3] 28)) := below_alloc (Below.refl _ _) _
  have hbb : Below w.heap.size w ((w.alloc (.cells #[.int .i64 g.f0, .slice A1 g.f1.length c1, .slice A2 g.f2.length c2, .slice A3 g.f3.length c3] 28)).alloc (.cells #[.bool le] 4)) := below_alloc hba _
  have hlt := bool_lit (w.alloc (.cells #[.int .i64 g.f0, .slice A1 g.f1.length c1, .slice A2 g.f2.length c2, .slice A3 g.f3.length c3] 28)) le
  rw [show (w.alloc (.cells #[.int .i64 g.f0, .slice A1 g.f1.length c1, .slice A2 g.f2.length c2, .slice A3 g.f3.length c3] 28)).heap.size = w.heap.size + 1 from by simp] at hlt
  refine (rmixed_calls _ g (some ⟨w.heap.size + 1, 0, none⟩) 1 [le] _ (HV.out.below hbb) hlt hbk (by simp)).mono ?_
  rintro e W2 ⟨u, rfl, hu, hb2⟩
  have HU := Aside0.mk (And.intro (Kd.R_lower hu hbb.size) (below_step hbb hb2))
  clear hba hbb hlt hu hb2
  go_wp2_with fail
  refine bodyPost_ret (results_tmp3 rfl _ _ _) rfl ?_
  exact ⟨u, rfl, HU.out.1, HU.out.2⟩
set_option maxRecDepth 100000 in
set_option maxHeartbeats 16000000 in
theorem rsize_calls (v : Value) (g : Ge) (w : World) (hv : IsG w v g) (hbk : g.bulk ≤ 2097152) :
    Calls Tryd.prog 20 #[v] w fun e w' => e = .returned (.tuple #[.int .i64 ((mixedB [false] g).length : Nat), .int .i64 (codeOf (checkR g)), .int .i64 (placeOf (checkR g))]) ∧ Below w.heap.size w w' := by
  have hv' := hv
  obtain ⟨A1, c1, A2, c2, A3, c3, rfl, l1, h1, l2, h2, l3, h3⟩ := hv'
  have HV := Aside0.mk hv
  clear hv h1 h2 h3
  go_enter Tryd.func20, Tryd.ntmps20
  go_wp2_with fail
  have hba : Below w.heap.size w (w.alloc (.cells #[.int .i64 g.f0, .slice A1 g.f1.length c1, .slice A2 g.f2.length c2, .slice A3 g.f3.length c3] 28)) := below_alloc (Below.refl _ _) _
  refine (rprint_calls _ g false _ (HV.out.below hba) hbk).mono ?_
  rintro e W2 ⟨u, rfl, hu, hb2⟩
  obtain ⟨A5, c5, rfl⟩ := Kd.R_slice hu
  have HB := Aside0.mk (below_step hba hb2)
  clear hba hu hb2
  go_wp2_with fail
  refine bodyPost_ret (results_tmp3 rfl _ _ _) rfl ?_
  exact ⟨rfl, HB.out⟩
end Go.Proofs.YtiiolhnpnlmkjaaDoor.Tree
namespace Go.Proofs.YtiiolhnpnlmkjaaDoor.Tree
open Go.RowKit Go.Proofs.YtiiolhnpnlmkjaaDoor.PWkbPrints Go.Proofs.YtiiolhnpnlmkjaaDoorW.PrintWords Go.Proofs.YtiiolhnpnlmkjaaDoorW.PrintLast Go.Proofs.YtiiolhnpnlmkjaaDoorW.PrintMore
set_option linter.unusedVariables false
set_option linter.unusedSimpArgs false
attribute [local go_sem] Oper.semAt_some max2_int max_two min2_int min_two
theorem same_l0 (xs : List Int) (hl : xs.length ≤ 140737488355328) (d : Nat) : ∀ k i : Nat, xs.length = i + d → d < k → plumblaw17_same.l0 k xs xs (i : Int) = some true := by
  induction d with
  | zero =>
    intro k i h hk
    obtain ⟨k, rfl⟩ : ∃ m, k = m + 1 := ⟨k - 1, by omega⟩
    simp only [plumblaw17_same.l0]
    rw [if_neg (by omega)]
  | succ d ih =>
    intro k i h hk
    obtain ⟨k, rfl⟩ : ∃ m, k = m + 1 := ⟨k - 1, by omega⟩
    simp only [plumblaw17_same.l0]
    rw [if_pos (by omega), if_pos (by omega), if_pos (by omega), if_pos trivial, show wrap64 ((i : Int) + 1) = ((i + 1 : Nat) : Int) from by unfold wrap64; omega]
    exact ih k (i + 1) (by omega) (by omega)
theorem same_spec (xs ys : List Int) (k : Nat) (e : ys = xs) (hl : xs.length ≤ 140737488355328) (hk : xs.length < k) : plumblaw17_same.f k xs ys = some true := by
  subst e
  unfold plumblaw17_same.f
  rw [if_pos rfl]
  exact same_l0 ys hl ys.length k 0 (by omega) hk

theorem same_ok (A : Option Addr) (c : Nat) (l : List Int) (A2 : Option Addr) (c2 : Nat) (W : World) (hC : kB.C W A l.length l) (hc : l.length ≤ c) (h2 : kB.C W A2 l.length l) (hc2 : l.length ≤ c2) (hl : l.length ≤ 140737488355328) :
    Calls Tryd.prog 25 #[.slice A l.length c, .slice A2 l.length c2] W fun e W' => e = .returned (.bool true) ∧ Drawn0 W W' :=
  plumblaw17_same.calls (l.length + 1) A c l A2 c2 l true W hC hc h2 hc2 (same_spec l l _ rfl hl (by omega))
set_option maxRecDepth 100000 in
set_option maxHeartbeats 16000000 in
theorem prints_calls (v : Value) (g : Ge) (le : Bool) (O : Option Addr) (co : Nat) (os : List Bool) (w : World) (hG : Handle w) (hv : IsG w v g) (ho : Kd.bool.C w O os.length os) (hbk : g.bulk ≤ 1048576) (hos : os.length ≤ 1048576) :
    Calls Tryd.prog 4 #[v, .bool le, .slice O os.length co] w fun e w' => e = .returned (.bool true) ∧ Below w.heap.size w w' := by
  have hv' := hv
  obtain ⟨A1, c1, A2, c2, A3, c3, rfl, l1, h1, l2, h2, l3, h3⟩ := hv'
  have HV := Aside0.mk hv
  have HO := Aside0.mk ho
  have HG := Aside0.mk hG
  clear hv h1 h2 h3 ho hG
  go_enter Tryd.func4, Tryd.ntmps4
  go_wp2_with fail
  obtain ⟨gb, hgb⟩ : ∃ y, y = w.heap.size := ⟨_, rfl⟩
  obtain ⟨W1, hW1⟩ : ∃ y, y = w.alloc (.cells #[.int .i64 g.f0, .slice A1 g.f1.length c1, .slice A2 g.f2.length c2, .slice A3 g.f3.length c3] 28) := ⟨_, rfl⟩
  rw [← hW1, ← hgb]
  have HB := Aside0.mk (show Below w.heap.size w W1 by rw [hW1]; exact below_alloc (Below.refl _ _) _)
  have BK := Aside0.mk (show W1.heap[gb]? = some (.cells #[.int .i64 g.f0, .slice A1 g.f1.length c1, .slice A2 g.f2.length c2, .slice A3 g.f3.length c3] 28 (0, 0)) by rw [hW1, hgb]; exact World.alloc_heap_new _ _)
  clear hW1 hgb
  obtain ⟨x, hx⟩ : ∃ y, y = checkR g := ⟨_, rfl⟩
  obtain ⟨cc, hcc⟩ : ∃ y, y = codeOf x := ⟨_, rfl⟩
  obtain ⟨pp, hpp⟩ : ∃ y, y = placeOf x := ⟨_, rfl⟩
  have HX := Aside0.mk hx
  have HCC := Aside0.mk hcc
  have HPP := Aside0.mk hpp
  have HNZ := Aside0.mk (show x ≠ none → codeOf x ≠ 0 ∧ pp = placeOf x from fun h => by
    refine ⟨?_, hpp⟩
    rw [hx]
    rcases hy : checkR g with _ | y
    · rw [hx] at h; exact absurd hy h
    · exact code_some hy)
  clear hx hcc hpp
  have z0_ : W1.cell? ⟨gb, 0, none⟩ = some (.int .i64 g.f0) := (blk_cell BK.out 0).trans rfl
  have z1_ : W1.cell? ⟨gb, 1, none⟩ = some (.slice A1 g.f1.length c1) := (blk_cell BK.out 1).trans rfl
  have z2_ : W1.cell? ⟨gb, 2, none⟩ = some (.slice A2 g.f2.length c2) := (blk_cell BK.out 2).trans rfl
  have z3_ : W1.cell? ⟨gb, 3, none⟩ = some (.slice A3 g.f3.length c3) := (blk_cell BK.out 3).trans rfl
  refine (rprint_calls _ g le W1 (HV.out.below HB.out) (by omega)).mono ?_
  rintro e W2 ⟨u1_, rfl, hr_, hb_⟩
  rw [← HX.out, ← HCC.out, ← HPP.out]
  obtain ⟨a1, d1, rfl⟩ := Kd.R_slice hr_
  have R1 := Aside0.mk (Kd.R_lower hr_ HB.out.size)
  clear hr_
  have BK2_ := Aside0.mk ((hb_.block gb (blk_lt BK.out)).trans BK.out)
  have HB2_ := Aside0.mk (below_step HB.out hb_)
  clear BK HB hb_ z0_ z1_ z2_ z3_ 
  have BK := BK2_
  have HB := HB2_
  clear BK2_ HB2_ 
  have z0_ : W2.cell? ⟨gb, 0, none⟩ = some (.int .i64 g.f0) := (blk_cell BK.out 0).trans rfl
  have z1_ : W2.cell? ⟨gb, 1, none⟩ = some (.slice A1 g.f1.length c1) := (blk_cell BK.out 1).trans rfl
  have z2_ : W2.cell? ⟨gb, 2, none⟩ = some (.slice A2 g.f2.length c2) := (blk_cell BK.out 2).trans rfl
  have z3_ : W2.cell? ⟨gb, 3, none⟩ = some (.slice A3 g.f3.length c3) := (blk_cell BK.out 3).trans rfl
  go_wp2_with fail
  refine (rsize_calls _ g W2 (HV.out.below HB.out) (by omega)).mono ?_
  rintro e W3 ⟨rfl, hb_⟩
  rw [← HX.out, ← HCC.out, ← HPP.out]
  have BK2_ := Aside0.mk ((hb_.block gb (blk_lt BK.out)).trans BK.out)
  have HB2_ := Aside0.mk (below_step HB.out hb_)
  have R1_ := Aside0.mk (Kd.R_below R1.out hb_)
  clear BK HB hb_ z0_ z1_ z2_ z3_ R1
  have BK := BK2_
  have HB := HB2_
  have R1 := R1_
  clear BK2_ HB2_ R1_
  have z0_ : W3.cell? ⟨gb, 0, none⟩ = some (.int .i64 g.f0) := (blk_cell BK.out 0).trans rfl
  have z1_ : W3.cell? ⟨gb, 1, none⟩ = some (.slice A1 g.f1.length c1) := (blk_cell BK.out 1).trans rfl
  have z2_ : W3.cell? ⟨gb, 2, none⟩ = some (.slice A2 g.f2.length c2) := (blk_cell BK.out 2).trans rfl
  have z3_ : W3.cell? ⟨gb, 3, none⟩ = some (.slice A3 g.f3.length c3) := (blk_cell BK.out 3).trans rfl
  go_wp2_with fail
  refine (rmixed_calls _ g O co os W3 (HV.out.below HB.out) (Kd.C_below HO.out HB.out) (by omega) (by omega)).mono ?_
  rintro e W4 ⟨u3_, rfl, hr_, hb_⟩
  rw [← HX.out, ← HCC.out, ← HPP.out]
  obtain ⟨a3, d3, rfl⟩ := Kd.R_slice hr_
  have R3_0 := Aside0.mk (Kd.R_lower hr_ HB.out.size)
  clear hr_
  have BK2_ := Aside0.mk ((hb_.block gb (blk_lt BK.out)).trans BK.out)
  have HB2_ := Aside0.mk (below_step HB.out hb_)
  have R1_ := Aside0.mk (Kd.R_below R1.out hb_)
  clear BK HB hb_ z0_ z1_ z2_ z3_ R1
  have BK := BK2_
  have HB := HB2_
  have R1 := R1_
  clear BK2_ HB2_ R1_
  have R3 := R3_0
  clear R3_0
  have z0_ : W4.cell? ⟨gb, 0, none⟩ = some (.int .i64 g.f0) := (blk_cell BK.out 0).trans rfl
  have z1_ : W4.cell? ⟨gb, 1, none⟩ = some (.slice A1 g.f1.length c1) := (blk_cell BK.out 1).trans rfl
  have z2_ : W4.cell? ⟨gb, 2, none⟩ = some (.slice A2 g.f2.length c2) := (blk_cell BK.out 2).trans rfl
  have z3_ : W4.cell? ⟨gb, 3, none⟩ = some (.slice A3 g.f3.length c3) := (blk_cell BK.out 3).trans rfl
  go_wp2_with fail
  refine (print_calls _ g le W4 (HV.out.below HB.out) (by omega)).mono ?_
  rintro e W5 ⟨u4_, er4, rfl, hr_, he_, hb_⟩
  obtain ⟨a4, d4, rfl⟩ := Kd.R_slice hr_
  have R4_0 := Aside0.mk (Kd.R_lower hr_ HB.out.size)
  have E4_0 := Aside0.mk he_
  clear hr_ he_
  have BK2_ := Aside0.mk ((hb_.block gb (blk_lt BK.out)).trans BK.out)
  have HB2_ := Aside0.mk (below_step HB.out hb_)
  have R1_ := Aside0.mk (Kd.R_below R1.out hb_)
  have R3_ := Aside0.mk (Kd.R_below R3.out hb_)
  clear BK HB hb_ z0_ z1_ z2_ z3_ R1 R3
  have BK := BK2_
  have HB := HB2_
  have R1 := R1_
  have R3 := R3_
  clear BK2_ HB2_ R1_ R3_
  have R4 := R4_0
  have E4 := E4_0
  clear R4_0 E4_0
  have z0_ : W5.cell? ⟨gb, 0, none⟩ = some (.int .i64 g.f0) := (blk_cell BK.out 0).trans rfl
  have z1_ : W5.cell? ⟨gb, 1, none⟩ = some (.slice A1 g.f1.length c1) := (blk_cell BK.out 1).trans rfl
  have z2_ : W5.cell? ⟨gb, 2, none⟩ = some (.slice A2 g.f2.length c2) := (blk_cell BK.out 2).trans rfl
  have z3_ : W5.cell? ⟨gb, 3, none⟩ = some (.slice A3 g.f3.length c3) := (blk_cell BK.out 3).trans rfl
  go_wp2_with fail
  refine (Size_calls _ g W5 (HV.out.below HB.out) (by omega)).mono ?_
  rintro e W6 ⟨er5, rfl, he_, hb_⟩
  have E5_0 := Aside0.mk he_
  clear he_
  have BK2_ := Aside0.mk ((hb_.block gb (blk_lt BK.out)).trans BK.out)
  have HB2_ := Aside0.mk (below_step HB.out hb_)
  have R1_ := Aside0.mk (Kd.R_below R1.out hb_)
  have R3_ := Aside0.mk (Kd.R_below R3.out hb_)
  have R4_ := Aside0.mk (Kd.R_below R4.out hb_)
  have E4_ := Aside0.mk (E4.out.below hb_)
  clear BK HB hb_ z0_ z1_ z2_ z3_ R1 R3 R4 E4
  have BK := BK2_
  have HB := HB2_
  have R1 := R1_
  have R3 := R3_
  have R4 := R4_
  have E4 := E4_
  clear BK2_ HB2_ R1_ R3_ R4_ E4_
  have E5 := E5_0
  clear E5_0
  have z0_ : W6.cell? ⟨gb, 0, none⟩ = some (.int .i64 g.f0) := (blk_cell BK.out 0).trans rfl
  have z1_ : W6.cell? ⟨gb, 1, none⟩ = some (.slice A1 g.f1.length c1) := (blk_cell BK.out 1).trans rfl
  have z2_ : W6.cell? ⟨gb, 2, none⟩ = some (.slice A2 g.f2.length c2) := (blk_cell BK.out 2).trans rfl
  have z3_ : W6.cell? ⟨gb, 3, none⟩ = some (.slice A3 g.f3.length c3) := (blk_cell BK.out 3).trans rfl
  go_wp2_with fail
  refine (mixed_calls _ g O co os W6 (HV.out.below HB.out) (Kd.C_below HO.out HB.out) (by omega) (by omega)).mono ?_
  rintro e W7 ⟨u6_, er6, rfl, hr_, he_, hb_⟩
  obtain ⟨a6, d6, rfl⟩ := Kd.R_slice hr_
  have R6_0 := Aside0.mk (Kd.R_lower hr_ HB.out.size)
  have E6_0 := Aside0.mk he_
  clear hr_ he_
  have BK2_ := Aside0.mk ((hb_.block gb (blk_lt BK.out)).trans BK.out)
  have HB2_ := Aside0.mk (below_step HB.out hb_)
  have R1_ := Aside0.mk (Kd.R_below R1.out hb_)
  have R3_ := Aside0.mk (Kd.R_below R3.out hb_)
  have R4_ := Aside0.mk (Kd.R_below R4.out hb_)
  have E4_ := Aside0.mk (E4.out.below hb_)
  have E5_ := Aside0.mk (E5.out.below hb_)
  clear BK HB hb_ z0_ z1_ z2_ z3_ R1 R3 R4 E4 E5
  have BK := BK2_
  have HB := HB2_
  have R1 := R1_
  have R3 := R3_
  have R4 := R4_
  have E4 := E4_
  have E5 := E5_
  clear BK2_ HB2_ R1_ R3_ R4_ E4_ E5_
  have R6 := R6_0
  have E6 := E6_0
  clear R6_0 E6_0
  have hsz : (((sizedN g : Nat) : Int) == ((mixedB [false] g).length : Int)) = true := by rw [sized_eq [false] g]; simp
  have hl1 := mixedB_len [le] g
  have hl3 := mixedB_len os g
  have HSZ := Aside0.mk hsz
  have HL := Aside0.mk (And.intro (show (mixedB [le] g).length ≤ 140737488355328 by omega) (show (mixedB os g).length ≤ 140737488355328 by omega))
  clear hsz hl1 hl3
  go_wp2_with fail
  refine (same_ok a4 d4 (mixedB [le] g) a1 d1 W7 (Kd.R_reads' R4.out).2.2 (Kd.R_reads' R4.out).2.1 (Kd.R_reads' R1.out).2.2 (Kd.R_reads' R1.out).2.1 HL.out.1).mono ?_
  rintro e W8 ⟨rfl, hb_⟩
  replace hb_ := hb_.below
  have HB2_ := Aside0.mk (below_step HB.out hb_)
  have R1_ := Aside0.mk (Kd.R_below R1.out hb_)
  have R3_ := Aside0.mk (Kd.R_below R3.out hb_)
  have R4_ := Aside0.mk (Kd.R_below R4.out hb_)
  have R6_ := Aside0.mk (Kd.R_below R6.out hb_)
  have E4_ := Aside0.mk (E4.out.below hb_)
  have E5_ := Aside0.mk (E5.out.below hb_)
  have E6_ := Aside0.mk (E6.out.below hb_)
  clear HB hb_ R1 R3 R4 R6 E4 E5 E6
  have HB := HB2_
  clear HB2_
  have R1 := R1_
  have R3 := R3_
  have R4 := R4_
  have R6 := R6_
  have E4 := E4_
  have E5 := E5_
  have E6 := E6_
  clear R1_ R3_ R4_ R6_ E4_ E5_ E6_
  clear R1 R4
  have ht4 := told_yes er4 x pp W8 (Handle_below HG.out HB.out) (HX.out ▸ E4.out) HNZ.out
  rw [← HCC.out] at ht4
  go_wp2_with fail
  refine (ht4).mono ?_
  rintro e W9 ⟨rfl, hb_⟩
  have HB2_ := Aside0.mk (below_step HB.out hb_)
  have R3_ := Aside0.mk (Kd.R_below R3.out hb_)
  have R6_ := Aside0.mk (Kd.R_below R6.out hb_)
  have E5_ := Aside0.mk (E5.out.below hb_)
  have E6_ := Aside0.mk (E6.out.below hb_)
  clear HB hb_ R3 R6 E5 E6
  have HB := HB2_
  clear HB2_
  have R3 := R3_
  have R6 := R6_
  have E5 := E5_
  have E6 := E6_
  clear R3_ R6_ E5_ E6_
  have hsz := HSZ.out
  clear E4 ht4
  have ht5 := told_yes er5 x pp W9 (Handle_below HG.out HB.out) (HX.out ▸ E5.out) HNZ.out
  rw [← HCC.out] at ht5
  go_wp2_with fail
  refine (ht5).mono ?_
  rintro e W10 ⟨rfl, hb_⟩
  have HB2_ := Aside0.mk (below_step HB.out hb_)
  have R3_ := Aside0.mk (Kd.R_below R3.out hb_)
  have R6_ := Aside0.mk (Kd.R_below R6.out hb_)
  have E6_ := Aside0.mk (E6.out.below hb_)
  clear HB hb_ R3 R6 E6
  have HB := HB2_
  clear HB2_
  have R3 := R3_
  have R6 := R6_
  have E6 := E6_
  clear R3_ R6_ E6_
  clear E5 ht5
  go_wp2_with fail
  refine (same_ok a6 d6 (mixedB os g) a3 d3 W10 (Kd.R_reads' R6.out).2.2 (Kd.R_reads' R6.out).2.1 (Kd.R_reads' R3.out).2.2 (Kd.R_reads' R3.out).2.1 HL.out.2).mono ?_
  rintro e W11 ⟨rfl, hb_⟩
  replace hb_ := hb_.below
  have HB2_ := Aside0.mk (below_step HB.out hb_)
  have E6_ := Aside0.mk (E6.out.below hb_)
  clear HB hb_ E6
  have HB := HB2_
  clear HB2_
  have E6 := E6_
  clear E6_
  have ht6 := told_yes er6 x pp W11 (Handle_below HG.out HB.out) (HX.out ▸ E6.out) HNZ.out
  rw [← HCC.out] at ht6
  go_wp2_with fail
  refine (ht6).mono ?_
  rintro e W12 ⟨rfl, hb_⟩
  have HB2_ := Aside0.mk (below_step HB.out hb_)
  clear HB hb_ 
  have HB := HB2_
  clear HB2_
  go_wp2_with fail
  go_ret
  exact ⟨rfl, HB.out⟩
end Go.Proofs.YtiiolhnpnlmkjaaDoor.Tree
