/- Texts of this claim laid one behind the other (TWAlive; TLawLimits): what each proves stands at its own names; the last one is the claim's. No conditions but those told. -/
import Derived.Test.YtiiolhnpnlmkjaaDoorZLj
namespace Go.Proofs.YtiiolhnpnlmkjaaDoor.Tree
open Go.RowKit Go.Proofs.YtiiolhnpnlmkjaaDoor.PWkbPrints Go.Proofs.YtiiolhnpnlmkjaaDoorW.PrintWords Go.Proofs.YtiiolhnpnlmkjaaDoorW.PrintLast Go.Proofs.YtiiolhnpnlmkjaaDoorW.PrintMore
set_option linter.unusedVariables false
set_option linter.unusedSimpArgs false
attribute [local go_sem] Oper.semAt_some max2_int max_two min2_int min_two
def gA : Ge := ⟨1, [⟨4607182418800017408, 4611686018427387904⟩], [], []⟩
def bA : List Int := [1, 1, 0, 0, 0, 0, 0, 0, 0, 0, 0, 240, 63, 0, 0, 0, 0, 0, 0, 0, 64]
def sA : ByteArray := ⟨#[48, 49, 48, 49, 48, 48, 48, 48, 48, 48, 48, 48, 48, 48, 48, 48, 48, 48, 48, 48, 48, 48, 102, 48, 51, 102, 48, 48, 48, 48, 48, 48, 48, 48, 48, 48, 48, 48, 48, 48, 52, 48]⟩
theorem gA_check : checkR gA = none := by kernel_rfl
theorem gA_bytes : geoB [true] gA 0 = bA := by kernel_rfl
theorem gA_parsed : parsedR bA 1 21 = .ok (gA, [true]) := by kernel_rfl
theorem gA_hex : PMk.octet_Hex.f 30 bA = some sA := by kernel_rfl
set_option maxRecDepth 100000 in
set_option maxHeartbeats 16000000 in
theorem alive_calls (w : World) : Calls Tryd.prog 27 #[] w fun e w' => e = .returned (.bool true) ∧ Below w.heap.size w w' := by
  have hu := Tryd.underlying28
  go_enter Tryd.func27, Tryd.ntmps27
  go_upto_region 2 with fail
  obtain ⟨gl, hgl⟩ : ∃ y, y = w.heap.size := ⟨_, rfl⟩
  obtain ⟨W1, hW1⟩ : ∃ y, y = (w.alloc (.cells #[.int .u64 4607182418800017408, .int .u64 4611686018427387904] 82)).alloc (.cells #[.int .i64 1, .slice (some ⟨w.heap.size, 0, none⟩) 1 1, .slice none 0 0, .slice none 0 0] 28) := ⟨_, rfl⟩
  rw [← hW1, ← hgl]
  have hb1 : Below w.heap.size w W1 := by rw [hW1]; exact below_alloc (below_alloc (Below.refl _ _) _) _
  have kl : W1.heap[gl]? = some (.cells #[.int .u64 4607182418800017408, .int .u64 4611686018427387904] 82 (0, 0)) := by rw [hW1, hgl]; exact blk_alloc (World.alloc_heap_new _ _) _
  have kg : W1.heap[gl + 1]? = some (.cells #[.int .i64 1, .slice (some ⟨gl, 0, none⟩) 1 1, .slice none 0 0, .slice none 0 0] 28 (0, 0)) := by
    rw [hW1, hgl]
    have h9 := World.alloc_heap_new (w.alloc (.cells #[.int .u64 4607182418800017408, .int .u64 4611686018427387904] 82)) (.cells #[.int .i64 1, .slice (some ⟨w.heap.size, 0, none⟩) 1 1, .slice none 0 0, .slice none 0 0] 28)
    simpa using h9
  have hIG : IsG W1 (.agg #[.int .i64 1, .slice (some ⟨gl, 0, none⟩) 1 1, .slice none 0 0, .slice none 0 0]) gA := ⟨_, 1, none, 0, none, 0, rfl, Nat.le_refl _, lit_pt (q := ⟨4607182418800017408, 4611686018427387904⟩) kl, Nat.le_refl _, Kd.C_nil _ _, Nat.le_refl _, Kd.C_nil _ _⟩
  have H1 := Aside0.mk (And.intro (And.intro hb1 kg) hIG)
  have z0_ : W1.cell? ⟨gl + 1, 0, none⟩ = some (.int .i64 1) := (blk_cell kg 0).trans rfl
  have z1_ : W1.cell? ⟨gl + 1, 1, none⟩ = some (.slice (some ⟨gl, 0, none⟩) 1 1) := (blk_cell kg 1).trans rfl
  have z2_ : W1.cell? ⟨gl + 1, 2, none⟩ = some (.slice none 0 0) := (blk_cell kg 2).trans rfl
  have z3_ : W1.cell? ⟨gl + 1, 3, none⟩ = some (.slice none 0 0) := (blk_cell kg 3).trans rfl
  clear hW1 hgl hb1 kl kg hIG
  go_wp2_with fail
  refine (print_calls _ gA true W1 H1.out.2 (by decide)).mono ?_
  rintro e W2 ⟨u, er, rfl, hR, hE, hb2⟩
  rw [mixedB, if_pos gA_check, gA_bytes] at hR
  rw [gA_check] at hE
  obtain rfl : er = .nilIface := hE
  obtain ⟨A, c, e2⟩ := Kd.R_slice hR
  have hlA : bA.length = 21 := rfl
  rw [hlA] at e2
  subst e2
  have H2 := Aside0.mk (And.intro (And.intro (below_step H1.out.1.1 hb2) (blk_below H1.out.1.2 hb2)) (And.intro (H1.out.2.below hb2) (Kd.R_reads' hR).2))
  clear z0_ z1_ z2_ z3_ hb2 hR H1
  go_wp2_with fail
  refine (parse_calls A c bA 1 21 W2 H2.out.2.2.2 H2.out.2.2.1 (by decide)).mono ?_
  rintro e W3 ⟨uh, eh, rfl, hb3, -, hO⟩
  obtain ⟨rfl, hcp⟩ := hO _ gA_parsed
  have hig := hcp.isG
  have H3 := Aside0.mk (And.intro (And.intro (below_step H2.out.1.1 hb3) (blk_below H2.out.1.2 hb3)) (And.intro (And.intro (H2.out.2.1.below hb3) (And.intro H2.out.2.2.1 (Kd.C_below H2.out.2.2.2 hb3))) hig))
  obtain ⟨k, A1, n1, c1, A2, n2, c2, A3, n3, c3, e3⟩ := hcp.agg
  subst e3
  clear hb3 hO hcp H2 hig
  go_upto_region 4 with fail
  obtain ⟨W4, hW4⟩ : ∃ y, y = W3.alloc (.cells #[.int .i64 k, .slice A1 n1 c1, .slice A2 n2 c2, .slice A3 n3 c3] 28) := ⟨_, rfl⟩
  obtain ⟨gh, hgh⟩ : ∃ y, y = W3.heap.size := ⟨_, rfl⟩
  rw [← hW4, ← hgh]
  have hb4 : Below W3.heap.size W3 W4 := by rw [hW4]; exact below_alloc (Below.refl _ _) _
  have kh : W4.heap[gh]? = some (.cells #[.int .i64 k, .slice A1 n1 c1, .slice A2 n2 c2, .slice A3 n3 c3] 28 (0, 0)) := by rw [hW4, hgh]; exact World.alloc_heap_new _ _
  have kg := blk_below H3.out.1.2 hb4
  have H4 := Aside0.mk (And.intro (And.intro (below_step H3.out.1.1 hb4) (And.intro kg kh)) (And.intro (And.intro (H3.out.2.1.1.below hb4) (And.intro H3.out.2.1.2.1 (Kd.C_below H3.out.2.1.2.2 hb4))) (H3.out.2.2.below hb4)))
  clear hW4 hgh hb4 kg kh H3
  go_wp2_with fail
  refine (PMk.octet_Hex.calls 30 A c bA sA W4 H4.out.2.1.2.2 H4.out.2.1.2.1 gA_hex).mono ?_
  rintro e W5 ⟨rfl, hb5⟩
  have H5 := Aside0.mk (And.intro (below_step H4.out.1.1 hb5) (And.intro (H4.out.2.1.1.below hb5) (H4.out.2.2.below hb5)))
  have kg := blk_below H4.out.1.2.1 hb5
  have kh := blk_below H4.out.1.2.2 hb5
  have z0_ : W5.cell? ⟨gl + 1, 0, none⟩ = some (.int .i64 1) := (blk_cell kg 0).trans rfl
  have z1_ : W5.cell? ⟨gl + 1, 1, none⟩ = some (.slice (some ⟨gl, 0, none⟩) 1 1) := (blk_cell kg 1).trans rfl
  have z2_ : W5.cell? ⟨gl + 1, 2, none⟩ = some (.slice none 0 0) := (blk_cell kg 2).trans rfl
  have z3_ : W5.cell? ⟨gl + 1, 3, none⟩ = some (.slice none 0 0) := (blk_cell kg 3).trans rfl
  have y0_ : W5.cell? ⟨gh, 0, none⟩ = some (.int .i64 k) := (blk_cell kh 0).trans rfl
  have y1_ : W5.cell? ⟨gh, 1, none⟩ = some (.slice A1 n1 c1) := (blk_cell kh 1).trans rfl
  have y2_ : W5.cell? ⟨gh, 2, none⟩ = some (.slice A2 n2 c2) := (blk_cell kh 2).trans rfl
  have y3_ : W5.cell? ⟨gh, 3, none⟩ = some (.slice A3 n3 c3) := (blk_cell kh 3).trans rfl
  have hstr : (sA.toList == [48, 49, 48, 49, 48, 48, 48, 48, 48, 48, 48, 48, 48, 48, 48, 48, 48, 48, 48, 48, 48, 48, 102, 48, 51, 102, 48, 48, 48, 48, 48, 48, 48, 48, 48, 48, 48, 48, 48, 48, 52, 48]) = true := by kernel_rfl
  clear hb5 H4 kg kh
  go_wp2_with fail
  refine (equal_calls gA.bulk _ _ gA gA W5 H5.out.2.1 H5.out.2.2 (Nat.le_refl _) (by decide) (by decide)).mono ?_
  rintro e W6 ⟨rfl, hb6⟩
  rw [eqG_true rfl]
  have HB6 := Aside0.mk (below_step H5.out.1 hb6)
  clear hb6
  go_wp2_with fail
  go_ret
  exact ⟨rfl, HB6.out⟩
end Go.Proofs.YtiiolhnpnlmkjaaDoor.Tree
namespace Go.Proofs.YtiiolhnpnlmkjaaDoor.Tree
open Go.RowKit Go.Proofs.YtiiolhnpnlmkjaaDoor.PWkbPrints Go.Proofs.YtiiolhnpnlmkjaaDoorW.PrintWords Go.Proofs.YtiiolhnpnlmkjaaDoorW.PrintLast Go.Proofs.YtiiolhnpnlmkjaaDoorW.PrintMore Go.Proofs.YtiiolhnpnlmkjaaDoor.PMk
set_option linter.unusedVariables false
set_option linter.unusedSimpArgs false
attribute [local go_sem] Oper.semAt_some max2_int max_two min2_int min_two
theorem code_ne {p c : Int} (h : c ≠ 0) : codeOf (some (p, c)) ≠ 0 := h
theorem eqG_self (g : Ge) : eqG g g = true := eqG_true rfl
theorem zero_no (w : World) : Calls Tryd.prog 29 #[.agg #[.int .i64 0, .slice none 0 0, .slice none 0 0, .slice none 0 0]] w fun e w' => e = .returned (.bool true) ∧ Below w.heap.size w w' :=
  plumblaw17_zero.calls 0 none 0 [] none 0 [] none 0 [] true w (Kd.C_nil _ _) (Nat.le_refl _) (Kd.C_nil _ _) (Nat.le_refl _) (Kd.C_nil _ _) (Nat.le_refl _) (by kernel_rfl)
set_option maxRecDepth 100000 in
set_option maxHeartbeats 32000000 in
theorem limits_calls (A : Option Addr) (c : Nat) (l : List Wn) (more0 : Int) (W : World) (hC : Kd.C kWn W A l.length l) (hl : l.length ≤ 1048576) (hxl : ∀ x ∈ l, x.f2.length ≤ 1048576) (hxy : Xy l) (hh : Handle W) :
    Calls Tryd.prog 10 #[.slice A l.length c, .int .i64 more0] W fun e W' => e = .returned (.bool true) ∧ Below W.heap.size W W' := by
  have hu := Tryd.underlying28
  have HT := Aside0.mk (treeM_ok hxy)
  obtain ⟨g, hg⟩ : ∃ y, y = treeM l := ⟨_, rfl⟩
  have HGE := Aside0.mk hg
  rw [← hg] at HT
  have HH := Aside0.mk hh
  have HC := Aside0.mk hC
  have HB := Aside0.mk (Below.refl W.heap.size W)
  clear hC hh hg
  go_enter Tryd.func10, Tryd.ntmps10
  go_wp2_with fail
  refine (grown_calls A c l W HC.out hl hxl hxy).mono ?_
  rintro e W1 ⟨u, rfl, hcp, hb_⟩
  rw [← HGE.out] at hcp
  obtain ⟨G1, g1_, G2, g2_, G3, g3_, rfl, hig⟩ := hcp.isG
  have IG := Aside0.mk (show IsG W1 (.agg #[.int .i64 g.f0, .slice G1 g.f1.length g1_, .slice G2 g.f2.length g2_, .slice G3 g.f3.length g3_]) g from ⟨G1, g1_, G2, g2_, G3, g3_, rfl, hig⟩)
  clear hcp hig
  have n_ := Aside0.mk (below_step HB.out hb_)
  clear HB
  have HB := n_
  clear n_
  have n_ := Aside0.mk (Handle_below HH.out hb_)
  clear HH
  have HH := n_
  clear n_
  have n_ := Aside0.mk (Kd.C_below HC.out hb_)
  clear HC
  have HC := n_
  clear n_
  clear hb_
  go_upto_region 2 with fail
  obtain ⟨gl, hgl_⟩ : ∃ x, x = W1.heap.size := ⟨_, rfl⟩
  obtain ⟨W2, hW2_⟩ : ∃ x, x = W1.alloc (.cells #[.int .i64 g.f0, .slice G1 g.f1.length g1_, .slice G2 g.f2.length g2_, .slice G3 g.f3.length g3_] 28) := ⟨_, rfl⟩
  rw [← hW2_, ← hgl_]
  have KG := Aside0.mk (show W2.heap[gl]? = some (.cells #[.int .i64 g.f0, .slice G1 g.f1.length g1_, .slice G2 g.f2.length g2_, .slice G3 g.f3.length g3_] 28 (0, 0)) by rw [hW2_, hgl_]; exact World.alloc_heap_new _ _)
  have hb_ : Below W1.heap.size W1 W2 := by rw [hW2_]; exact below_alloc (Below.refl _ _) _
  clear hW2_ hgl_
  have n_ := Aside0.mk (below_step HB.out hb_)
  clear HB
  have HB := n_
  clear n_
  have n_ := Aside0.mk (Handle_below HH.out hb_)
  clear HH
  have HH := n_
  clear n_
  have n_ := Aside0.mk (Kd.C_below HC.out hb_)
  clear HC
  have HC := n_
  clear n_
  have n_ := Aside0.mk (IG.out.below hb_)
  clear IG
  have IG := n_
  clear n_
  clear hb_
  have zG0_ : W2.cell? ⟨gl, 0, none⟩ = some (.int .i64 g.f0) := (blk_cell KG.out 0).trans rfl
  have zG1_ : W2.cell? ⟨gl, 1, none⟩ = some (.slice G1 g.f1.length g1_) := (blk_cell KG.out 1).trans rfl
  have zG2_ : W2.cell? ⟨gl, 2, none⟩ = some (.slice G2 g.f2.length g2_) := (blk_cell KG.out 2).trans rfl
  have zG3_ : W2.cell? ⟨gl, 3, none⟩ = some (.slice G3 g.f3.length g3_) := (blk_cell KG.out 3).trans rfl
  go_wp2_with fail
  clear zG0_ zG1_ zG2_ zG3_
  refine (alive_calls W2).mono ?_
  rintro e W3 ⟨rfl, hb_⟩
  have n_ := Aside0.mk (below_step HB.out hb_)
  clear HB
  have HB := n_
  clear n_
  have n_ := Aside0.mk (Handle_below HH.out hb_)
  clear HH
  have HH := n_
  clear n_
  have n_ := Aside0.mk (Kd.C_below HC.out hb_)
  clear HC
  have HC := n_
  clear n_
  have n_ := Aside0.mk (IG.out.below hb_)
  clear IG
  have IG := n_
  clear n_
  have n_ := Aside0.mk (blk_below KG.out hb_)
  clear KG
  have KG := n_
  clear n_
  clear hb_
  have zG0_ : W3.cell? ⟨gl, 0, none⟩ = some (.int .i64 g.f0) := (blk_cell KG.out 0).trans rfl
  have zG1_ : W3.cell? ⟨gl, 1, none⟩ = some (.slice G1 g.f1.length g1_) := (blk_cell KG.out 1).trans rfl
  have zG2_ : W3.cell? ⟨gl, 2, none⟩ = some (.slice G2 g.f2.length g2_) := (blk_cell KG.out 2).trans rfl
  have zG3_ : W3.cell? ⟨gl, 3, none⟩ = some (.slice G3 g.f3.length g3_) := (blk_cell KG.out 3).trans rfl
  go_wp2_with fail
  clear zG0_ zG1_ zG2_ zG3_
  refine (intoM_calls more0 1048576 (by decide) (by decide) W3).mono ?_
  rintro e W4 ⟨rfl, hb_⟩
  obtain ⟨mo, hmo⟩ : ∃ y, y = intoN more0 1048576 := ⟨_, rfl⟩
  have hmr := intoN_range more0 1048576 (by decide)
  rw [← hmo] at hmr ⊢
  clear hmo
  have n_ := Aside0.mk (below_step HB.out hb_)
  clear HB
  have HB := n_
  clear n_
  have n_ := Aside0.mk (Handle_below HH.out hb_)
  clear HH
  have HH := n_
  clear n_
  have n_ := Aside0.mk (Kd.C_below HC.out hb_)
  clear HC
  have HC := n_
  clear n_
  have n_ := Aside0.mk (IG.out.below hb_)
  clear IG
  have IG := n_
  clear n_
  have n_ := Aside0.mk (blk_below KG.out hb_)
  clear KG
  have KG := n_
  clear n_
  clear hb_
  have zG0_ : W4.cell? ⟨gl, 0, none⟩ = some (.int .i64 g.f0) := (blk_cell KG.out 0).trans rfl
  have zG1_ : W4.cell? ⟨gl, 1, none⟩ = some (.slice G1 g.f1.length g1_) := (blk_cell KG.out 1).trans rfl
  have zG2_ : W4.cell? ⟨gl, 2, none⟩ = some (.slice G2 g.f2.length g2_) := (blk_cell KG.out 2).trans rfl
  have zG3_ : W4.cell? ⟨gl, 3, none⟩ = some (.slice G3 g.f3.length g3_) := (blk_cell KG.out 3).trans rfl
  go_wp2_with fail
  clear zG0_ zG1_ zG2_ zG3_
  refine (print_calls _ g false W4 IG.out (by have := HT.out.2.2.1; omega)).mono ?_
  rintro e W5 ⟨u, er, rfl, hR, hE, hb_⟩
  rw [mixedB, if_pos HT.out.2.2.2] at hR
  rw [HT.out.2.2.2] at hE
  obtain rfl : er = .nilIface := hE
  obtain ⟨b, hbdef⟩ : ∃ y, y = geoB [false] g 0 := ⟨_, rfl⟩
  rw [← hbdef] at hR
  have HBD := Aside0.mk hbdef
  have hbl : b.length ≤ 1048576 := by have := (geoB_le [false] g 0).1; have := HT.out.2.2.1; rw [hbdef]; omega
  have hb9 : 9 ≤ b.length := by rw [hbdef]; exact (geoB_ge _ _ _).1
  obtain ⟨D, d, e2_⟩ := Kd.R_slice hR
  subst e2_
  have RB := Aside0.mk (Kd.R_reads' hR).2
  clear hR hbdef
  have n_ := Aside0.mk (below_step HB.out hb_)
  clear HB
  have HB := n_
  clear n_
  have n_ := Aside0.mk (Handle_below HH.out hb_)
  clear HH
  have HH := n_
  clear n_
  have n_ := Aside0.mk (Kd.C_below HC.out hb_)
  clear HC
  have HC := n_
  clear n_
  have n_ := Aside0.mk (IG.out.below hb_)
  clear IG
  have IG := n_
  clear n_
  have n_ := Aside0.mk (blk_below KG.out hb_)
  clear KG
  have KG := n_
  clear n_
  clear hb_
  have zG0_ : W5.cell? ⟨gl, 0, none⟩ = some (.int .i64 g.f0) := (blk_cell KG.out 0).trans rfl
  have zG1_ : W5.cell? ⟨gl, 1, none⟩ = some (.slice G1 g.f1.length g1_) := (blk_cell KG.out 1).trans rfl
  have zG2_ : W5.cell? ⟨gl, 2, none⟩ = some (.slice G2 g.f2.length g2_) := (blk_cell KG.out 2).trans rfl
  have zG3_ : W5.cell? ⟨gl, 3, none⟩ = some (.slice G3 g.f3.length g3_) := (blk_cell KG.out 3).trans rfl
  by_cases hbig : 65536 < (b.length : Int)
  · go_wp2_with fail
    go_ret
    exact ⟨rfl, HB.out⟩
  have hbig' : b.length ≤ 65536 := by omega
  go_wp2_with fail
  clear zG0_ zG1_ zG2_ zG3_
  refine (depth_calls _ g W5 IG.out (by have := HT.out.2.2.1; omega)).mono ?_
  rintro e W6 ⟨rfl, hb_⟩
  have hdp := depth_top g
  have hd6 : depthOf g ≤ 6 := by obtain ⟨x, hx, he⟩ := hdp.2.1; have := HT.out.2.1 x hx; omega
  have HDP := Aside0.mk hdp
  have hd1 := hdp.2.2
  clear hdp
  obtain ⟨d0, hd0⟩ : ∃ y, y = depthOf g := ⟨_, rfl⟩
  rw [← hd0] at HDP hd6 hd1 ⊢
  clear hd0
  have w1_ : wrap64 (d0 + mo) = d0 + mo := by unfold wrap64; omega
  have w2_ : wrap64 ((b.length : Int) + mo) = (b.length : Int) + mo := by unfold wrap64; omega
  have w3_ : wrap64 ((b.length : Int) - 1) = (b.length : Int) - 1 := by unfold wrap64; omega
  have w4_ : wrap64 (d0 - 1) = d0 - 1 := by unfold wrap64; omega
  have w5_ : wrap64 (-1 - mo) = -1 - mo := by unfold wrap64; omega
  have w6_ : wrap64 (-mo) = -mo := by unfold wrap64; omega
  have n_ := Aside0.mk (below_step HB.out hb_)
  clear HB
  have HB := n_
  clear n_
  have n_ := Aside0.mk (Handle_below HH.out hb_)
  clear HH
  have HH := n_
  clear n_
  have n_ := Aside0.mk (Kd.C_below HC.out hb_)
  clear HC
  have HC := n_
  clear n_
  have n_ := Aside0.mk (IG.out.below hb_)
  clear IG
  have IG := n_
  clear n_
  have n_ := Aside0.mk (blk_below KG.out hb_)
  clear KG
  have KG := n_
  clear n_
  have n_ := Aside0.mk (And.intro RB.out.1 (Kd.C_below RB.out.2 hb_))
  clear RB
  have RB := n_
  clear n_
  clear hb_
  have zG0_ : W6.cell? ⟨gl, 0, none⟩ = some (.int .i64 g.f0) := (blk_cell KG.out 0).trans rfl
  have zG1_ : W6.cell? ⟨gl, 1, none⟩ = some (.slice G1 g.f1.length g1_) := (blk_cell KG.out 1).trans rfl
  have zG2_ : W6.cell? ⟨gl, 2, none⟩ = some (.slice G2 g.f2.length g2_) := (blk_cell KG.out 2).trans rfl
  have zG3_ : W6.cell? ⟨gl, 3, none⟩ = some (.slice G3 g.f3.length g3_) := (blk_cell KG.out 3).trans rfl
  go_wp2_with fail
  have hpr : parsedR b (d0 + mo) ((b.length : Int) + mo) = .ok (g, ords [false] 0 (cntG g)) := by rw [HBD.out] at hbig' ⊢; exact parsed_print [false] g _ _ HT.out.1 (by have := HT.out.2.2.1; omega) (fun x hx => by have := HDP.out.1 x hx; omega) (by omega)
  clear zG0_ zG1_ zG2_ zG3_
  refine (parse_ok D d b (d0 + mo) ((b.length : Int) + mo) W6 g _ RB.out.2 RB.out.1 hbl hpr).mono ?_
  rintro e W7 ⟨X1, x1_, X2, x2_, X3, x3_, rfl, hcp, hb_⟩
  have IX := Aside0.mk (CopyOf.isG hcp)
  clear hcp
  have n_ := Aside0.mk (below_step HB.out hb_)
  clear HB
  have HB := n_
  clear n_
  have n_ := Aside0.mk (Handle_below HH.out hb_)
  clear HH
  have HH := n_
  clear n_
  have n_ := Aside0.mk (Kd.C_below HC.out hb_)
  clear HC
  have HC := n_
  clear n_
  have n_ := Aside0.mk (IG.out.below hb_)
  clear IG
  have IG := n_
  clear n_
  have n_ := Aside0.mk (blk_below KG.out hb_)
  clear KG
  have KG := n_
  clear n_
  have n_ := Aside0.mk (And.intro RB.out.1 (Kd.C_below RB.out.2 hb_))
  clear RB
  have RB := n_
  clear n_
  clear hb_
  clear hpr
  have zG0_ : W7.cell? ⟨gl, 0, none⟩ = some (.int .i64 g.f0) := (blk_cell KG.out 0).trans rfl
  have zG1_ : W7.cell? ⟨gl, 1, none⟩ = some (.slice G1 g.f1.length g1_) := (blk_cell KG.out 1).trans rfl
  have zG2_ : W7.cell? ⟨gl, 2, none⟩ = some (.slice G2 g.f2.length g2_) := (blk_cell KG.out 2).trans rfl
  have zG3_ : W7.cell? ⟨gl, 3, none⟩ = some (.slice G3 g.f3.length g3_) := (blk_cell KG.out 3).trans rfl
  go_upto_region 10 with fail
  obtain ⟨gx, hgx_⟩ : ∃ x, x = W7.heap.size := ⟨_, rfl⟩
  obtain ⟨W8, hW8_⟩ : ∃ x, x = W7.alloc (.cells #[.int .i64 g.f0, .slice X1 g.f1.length x1_, .slice X2 g.f2.length x2_, .slice X3 g.f3.length x3_] 28) := ⟨_, rfl⟩
  rw [← hW8_, ← hgx_]
  have KX := Aside0.mk (show W8.heap[gx]? = some (.cells #[.int .i64 g.f0, .slice X1 g.f1.length x1_, .slice X2 g.f2.length x2_, .slice X3 g.f3.length x3_] 28 (0, 0)) by rw [hW8_, hgx_]; exact World.alloc_heap_new _ _)
  have hb_ : Below W7.heap.size W7 W8 := by rw [hW8_]; exact below_alloc (Below.refl _ _) _
  clear hW8_ hgx_
  have n_ := Aside0.mk (below_step HB.out hb_)
  clear HB
  have HB := n_
  clear n_
  have n_ := Aside0.mk (Handle_below HH.out hb_)
  clear HH
  have HH := n_
  clear n_
  have n_ := Aside0.mk (Kd.C_below HC.out hb_)
  clear HC
  have HC := n_
  clear n_
  have n_ := Aside0.mk (IG.out.below hb_)
  clear IG
  have IG := n_
  clear n_
  have n_ := Aside0.mk (blk_below KG.out hb_)
  clear KG
  have KG := n_
  clear n_
  have n_ := Aside0.mk (And.intro RB.out.1 (Kd.C_below RB.out.2 hb_))
  clear RB
  have RB := n_
  clear n_
  have n_ := Aside0.mk (IX.out.below hb_)
  clear IX
  have IX := n_
  clear n_
  clear hb_
  clear zG0_ zG1_ zG2_ zG3_
  have zG0_ : W8.cell? ⟨gl, 0, none⟩ = some (.int .i64 g.f0) := (blk_cell KG.out 0).trans rfl
  have zG1_ : W8.cell? ⟨gl, 1, none⟩ = some (.slice G1 g.f1.length g1_) := (blk_cell KG.out 1).trans rfl
  have zG2_ : W8.cell? ⟨gl, 2, none⟩ = some (.slice G2 g.f2.length g2_) := (blk_cell KG.out 2).trans rfl
  have zG3_ : W8.cell? ⟨gl, 3, none⟩ = some (.slice G3 g.f3.length g3_) := (blk_cell KG.out 3).trans rfl
  have zX0_ : W8.cell? ⟨gx, 0, none⟩ = some (.int .i64 g.f0) := (blk_cell KX.out 0).trans rfl
  have zX1_ : W8.cell? ⟨gx, 1, none⟩ = some (.slice X1 g.f1.length x1_) := (blk_cell KX.out 1).trans rfl
  have zX2_ : W8.cell? ⟨gx, 2, none⟩ = some (.slice X2 g.f2.length x2_) := (blk_cell KX.out 2).trans rfl
  have zX3_ : W8.cell? ⟨gx, 3, none⟩ = some (.slice X3 g.f3.length x3_) := (blk_cell KX.out 3).trans rfl
  go_wp2_with fail
  have hpr : parsedR b (d0) ((b.length : Int)) = .ok (g, ords [false] 0 (cntG g)) := by rw [HBD.out] at hbig' ⊢; exact parsed_print [false] g _ _ HT.out.1 (by have := HT.out.2.2.1; omega) (fun x hx => by have := HDP.out.1 x hx; omega) (by omega)
  clear zG0_ zG1_ zG2_ zG3_ zX0_ zX1_ zX2_ zX3_
  refine (parse_ok D d b (d0) ((b.length : Int)) W8 g _ RB.out.2 RB.out.1 hbl hpr).mono ?_
  rintro e W9 ⟨Y1, y1_, Y2, y2_, Y3, y3_, rfl, hcp, hb_⟩
  have IY := Aside0.mk (CopyOf.isG hcp)
  clear hcp
  have n_ := Aside0.mk (below_step HB.out hb_)
  clear HB
  have HB := n_
  clear n_
  have n_ := Aside0.mk (Handle_below HH.out hb_)
  clear HH
  have HH := n_
  clear n_
  have n_ := Aside0.mk (Kd.C_below HC.out hb_)
  clear HC
  have HC := n_
  clear n_
  have n_ := Aside0.mk (IG.out.below hb_)
  clear IG
  have IG := n_
  clear n_
  have n_ := Aside0.mk (blk_below KG.out hb_)
  clear KG
  have KG := n_
  clear n_
  have n_ := Aside0.mk (And.intro RB.out.1 (Kd.C_below RB.out.2 hb_))
  clear RB
  have RB := n_
  clear n_
  have n_ := Aside0.mk (IX.out.below hb_)
  clear IX
  have IX := n_
  clear n_
  have n_ := Aside0.mk (blk_below KX.out hb_)
  clear KX
  have KX := n_
  clear n_
  clear hb_
  clear hpr
  have zG0_ : W9.cell? ⟨gl, 0, none⟩ = some (.int .i64 g.f0) := (blk_cell KG.out 0).trans rfl
  have zG1_ : W9.cell? ⟨gl, 1, none⟩ = some (.slice G1 g.f1.length g1_) := (blk_cell KG.out 1).trans rfl
  have zG2_ : W9.cell? ⟨gl, 2, none⟩ = some (.slice G2 g.f2.length g2_) := (blk_cell KG.out 2).trans rfl
  have zG3_ : W9.cell? ⟨gl, 3, none⟩ = some (.slice G3 g.f3.length g3_) := (blk_cell KG.out 3).trans rfl
  have zX0_ : W9.cell? ⟨gx, 0, none⟩ = some (.int .i64 g.f0) := (blk_cell KX.out 0).trans rfl
  have zX1_ : W9.cell? ⟨gx, 1, none⟩ = some (.slice X1 g.f1.length x1_) := (blk_cell KX.out 1).trans rfl
  have zX2_ : W9.cell? ⟨gx, 2, none⟩ = some (.slice X2 g.f2.length x2_) := (blk_cell KX.out 2).trans rfl
  have zX3_ : W9.cell? ⟨gx, 3, none⟩ = some (.slice X3 g.f3.length x3_) := (blk_cell KX.out 3).trans rfl
  go_upto_region 11 with fail
  obtain ⟨gy, hgy_⟩ : ∃ x, x = W9.heap.size := ⟨_, rfl⟩
  obtain ⟨W10, hW10_⟩ : ∃ x, x = W9.alloc (.cells #[.int .i64 g.f0, .slice Y1 g.f1.length y1_, .slice Y2 g.f2.length y2_, .slice Y3 g.f3.length y3_] 28) := ⟨_, rfl⟩
  rw [← hW10_, ← hgy_]
  have KY := Aside0.mk (show W10.heap[gy]? = some (.cells #[.int .i64 g.f0, .slice Y1 g.f1.length y1_, .slice Y2 g.f2.length y2_, .slice Y3 g.f3.length y3_] 28 (0, 0)) by rw [hW10_, hgy_]; exact World.alloc_heap_new _ _)
  have hb_ : Below W9.heap.size W9 W10 := by rw [hW10_]; exact below_alloc (Below.refl _ _) _
  clear hW10_ hgy_
  have n_ := Aside0.mk (below_step HB.out hb_)
  clear HB
  have HB := n_
  clear n_
  have n_ := Aside0.mk (Handle_below HH.out hb_)
  clear HH
  have HH := n_
  clear n_
  have n_ := Aside0.mk (Kd.C_below HC.out hb_)
  clear HC
  have HC := n_
  clear n_
  have n_ := Aside0.mk (IG.out.below hb_)
  clear IG
  have IG := n_
  clear n_
  have n_ := Aside0.mk (blk_below KG.out hb_)
  clear KG
  have KG := n_
  clear n_
  have n_ := Aside0.mk (And.intro RB.out.1 (Kd.C_below RB.out.2 hb_))
  clear RB
  have RB := n_
  clear n_
  have n_ := Aside0.mk (IX.out.below hb_)
  clear IX
  have IX := n_
  clear n_
  have n_ := Aside0.mk (blk_below KX.out hb_)
  clear KX
  have KX := n_
  clear n_
  have n_ := Aside0.mk (IY.out.below hb_)
  clear IY
  have IY := n_
  clear n_
  clear hb_
  clear zG0_ zG1_ zG2_ zG3_ zX0_ zX1_ zX2_ zX3_
  have zG0_ : W10.cell? ⟨gl, 0, none⟩ = some (.int .i64 g.f0) := (blk_cell KG.out 0).trans rfl
  have zG1_ : W10.cell? ⟨gl, 1, none⟩ = some (.slice G1 g.f1.length g1_) := (blk_cell KG.out 1).trans rfl
  have zG2_ : W10.cell? ⟨gl, 2, none⟩ = some (.slice G2 g.f2.length g2_) := (blk_cell KG.out 2).trans rfl
  have zG3_ : W10.cell? ⟨gl, 3, none⟩ = some (.slice G3 g.f3.length g3_) := (blk_cell KG.out 3).trans rfl
  have zX0_ : W10.cell? ⟨gx, 0, none⟩ = some (.int .i64 g.f0) := (blk_cell KX.out 0).trans rfl
  have zX1_ : W10.cell? ⟨gx, 1, none⟩ = some (.slice X1 g.f1.length x1_) := (blk_cell KX.out 1).trans rfl
  have zX2_ : W10.cell? ⟨gx, 2, none⟩ = some (.slice X2 g.f2.length x2_) := (blk_cell KX.out 2).trans rfl
  have zX3_ : W10.cell? ⟨gx, 3, none⟩ = some (.slice X3 g.f3.length x3_) := (blk_cell KX.out 3).trans rfl
  have zY0_ : W10.cell? ⟨gy, 0, none⟩ = some (.int .i64 g.f0) := (blk_cell KY.out 0).trans rfl
  have zY1_ : W10.cell? ⟨gy, 1, none⟩ = some (.slice Y1 g.f1.length y1_) := (blk_cell KY.out 1).trans rfl
  have zY2_ : W10.cell? ⟨gy, 2, none⟩ = some (.slice Y2 g.f2.length y2_) := (blk_cell KY.out 2).trans rfl
  have zY3_ : W10.cell? ⟨gy, 3, none⟩ = some (.slice Y3 g.f3.length y3_) := (blk_cell KY.out 3).trans rfl
  go_wp2_with fail
  have hpr : parsedR b (d0) ((b.length : Int) - 1) = .error ((b.length : Int) - 1, 192) := by rw [parsed_big (by omega)]; congr 2; omega
  clear zG0_ zG1_ zG2_ zG3_ zX0_ zX1_ zX2_ zX3_ zY0_ zY1_ zY2_ zY3_
  refine (parse_err D d b (d0) ((b.length : Int) - 1) W10 ((b.length : Int) - 1, 192) RB.out.2 RB.out.1 hbl hpr).mono ?_
  rintro e W11 ⟨gea, rfl, hev_, hb_⟩
  have Ea := Aside0.mk hev_
  clear hev_
  have n_ := Aside0.mk (below_step HB.out hb_)
  clear HB
  have HB := n_
  clear n_
  have n_ := Aside0.mk (Handle_below HH.out hb_)
  clear HH
  have HH := n_
  clear n_
  have n_ := Aside0.mk (Kd.C_below HC.out hb_)
  clear HC
  have HC := n_
  clear n_
  have n_ := Aside0.mk (IG.out.below hb_)
  clear IG
  have IG := n_
  clear n_
  have n_ := Aside0.mk (blk_below KG.out hb_)
  clear KG
  have KG := n_
  clear n_
  have n_ := Aside0.mk (And.intro RB.out.1 (Kd.C_below RB.out.2 hb_))
  clear RB
  have RB := n_
  clear n_
  have n_ := Aside0.mk (IX.out.below hb_)
  clear IX
  have IX := n_
  clear n_
  have n_ := Aside0.mk (blk_below KX.out hb_)
  clear KX
  have KX := n_
  clear n_
  have n_ := Aside0.mk (IY.out.below hb_)
  clear IY
  have IY := n_
  clear n_
  have n_ := Aside0.mk (blk_below KY.out hb_)
  clear KY
  have KY := n_
  clear n_
  clear hb_
  clear hpr
  have zG0_ : W11.cell? ⟨gl, 0, none⟩ = some (.int .i64 g.f0) := (blk_cell KG.out 0).trans rfl
  have zG1_ : W11.cell? ⟨gl, 1, none⟩ = some (.slice G1 g.f1.length g1_) := (blk_cell KG.out 1).trans rfl
  have zG2_ : W11.cell? ⟨gl, 2, none⟩ = some (.slice G2 g.f2.length g2_) := (blk_cell KG.out 2).trans rfl
  have zG3_ : W11.cell? ⟨gl, 3, none⟩ = some (.slice G3 g.f3.length g3_) := (blk_cell KG.out 3).trans rfl
  have zX0_ : W11.cell? ⟨gx, 0, none⟩ = some (.int .i64 g.f0) := (blk_cell KX.out 0).trans rfl
  have zX1_ : W11.cell? ⟨gx, 1, none⟩ = some (.slice X1 g.f1.length x1_) := (blk_cell KX.out 1).trans rfl
  have zX2_ : W11.cell? ⟨gx, 2, none⟩ = some (.slice X2 g.f2.length x2_) := (blk_cell KX.out 2).trans rfl
  have zX3_ : W11.cell? ⟨gx, 3, none⟩ = some (.slice X3 g.f3.length x3_) := (blk_cell KX.out 3).trans rfl
  have zY0_ : W11.cell? ⟨gy, 0, none⟩ = some (.int .i64 g.f0) := (blk_cell KY.out 0).trans rfl
  have zY1_ : W11.cell? ⟨gy, 1, none⟩ = some (.slice Y1 g.f1.length y1_) := (blk_cell KY.out 1).trans rfl
  have zY2_ : W11.cell? ⟨gy, 2, none⟩ = some (.slice Y2 g.f2.length y2_) := (blk_cell KY.out 2).trans rfl
  have zY3_ : W11.cell? ⟨gy, 3, none⟩ = some (.slice Y3 g.f3.length y3_) := (blk_cell KY.out 3).trans rfl
  go_upto_region 12 with fail
  obtain ⟨gpa, hgpa_⟩ : ∃ x, x = W11.heap.size := ⟨_, rfl⟩
  obtain ⟨W12, hW12_⟩ : ∃ x, x = W11.alloc (.cells #[.int .i64 0, .slice none 0 0, .slice none 0 0, .slice none 0 0] 28) := ⟨_, rfl⟩
  rw [← hW12_, ← hgpa_]
  have KP := Aside0.mk (show W12.heap[gpa]? = some (.cells #[.int .i64 0, .slice none 0 0, .slice none 0 0, .slice none 0 0] 28 (0, 0)) by rw [hW12_, hgpa_]; exact World.alloc_heap_new _ _)
  have hb_ : Below W11.heap.size W11 W12 := by rw [hW12_]; exact below_alloc (Below.refl _ _) _
  clear hW12_ hgpa_
  have n_ := Aside0.mk (below_step HB.out hb_)
  clear HB
  have HB := n_
  clear n_
  have n_ := Aside0.mk (Handle_below HH.out hb_)
  clear HH
  have HH := n_
  clear n_
  have n_ := Aside0.mk (Kd.C_below HC.out hb_)
  clear HC
  have HC := n_
  clear n_
  have n_ := Aside0.mk (IG.out.below hb_)
  clear IG
  have IG := n_
  clear n_
  have n_ := Aside0.mk (blk_below KG.out hb_)
  clear KG
  have KG := n_
  clear n_
  have n_ := Aside0.mk (And.intro RB.out.1 (Kd.C_below RB.out.2 hb_))
  clear RB
  have RB := n_
  clear n_
  have n_ := Aside0.mk (IX.out.below hb_)
  clear IX
  have IX := n_
  clear n_
  have n_ := Aside0.mk (blk_below KX.out hb_)
  clear KX
  have KX := n_
  clear n_
  have n_ := Aside0.mk (IY.out.below hb_)
  clear IY
  have IY := n_
  clear n_
  have n_ := Aside0.mk (blk_below KY.out hb_)
  clear KY
  have KY := n_
  clear n_
  have n_ := Aside0.mk (ErrV.below Ea.out hb_)
  clear Ea
  have Ea := n_
  clear n_
  clear hb_
  clear zG0_ zG1_ zG2_ zG3_ zX0_ zX1_ zX2_ zX3_ zY0_ zY1_ zY2_ zY3_
  have zG0_ : W12.cell? ⟨gl, 0, none⟩ = some (.int .i64 g.f0) := (blk_cell KG.out 0).trans rfl
  have zG1_ : W12.cell? ⟨gl, 1, none⟩ = some (.slice G1 g.f1.length g1_) := (blk_cell KG.out 1).trans rfl
  have zG2_ : W12.cell? ⟨gl, 2, none⟩ = some (.slice G2 g.f2.length g2_) := (blk_cell KG.out 2).trans rfl
  have zG3_ : W12.cell? ⟨gl, 3, none⟩ = some (.slice G3 g.f3.length g3_) := (blk_cell KG.out 3).trans rfl
  have zX0_ : W12.cell? ⟨gx, 0, none⟩ = some (.int .i64 g.f0) := (blk_cell KX.out 0).trans rfl
  have zX1_ : W12.cell? ⟨gx, 1, none⟩ = some (.slice X1 g.f1.length x1_) := (blk_cell KX.out 1).trans rfl
  have zX2_ : W12.cell? ⟨gx, 2, none⟩ = some (.slice X2 g.f2.length x2_) := (blk_cell KX.out 2).trans rfl
  have zX3_ : W12.cell? ⟨gx, 3, none⟩ = some (.slice X3 g.f3.length x3_) := (blk_cell KX.out 3).trans rfl
  have zY0_ : W12.cell? ⟨gy, 0, none⟩ = some (.int .i64 g.f0) := (blk_cell KY.out 0).trans rfl
  have zY1_ : W12.cell? ⟨gy, 1, none⟩ = some (.slice Y1 g.f1.length y1_) := (blk_cell KY.out 1).trans rfl
  have zY2_ : W12.cell? ⟨gy, 2, none⟩ = some (.slice Y2 g.f2.length y2_) := (blk_cell KY.out 2).trans rfl
  have zY3_ : W12.cell? ⟨gy, 3, none⟩ = some (.slice Y3 g.f3.length y3_) := (blk_cell KY.out 3).trans rfl
  have zP0_ : W12.cell? ⟨gpa, 0, none⟩ = some (.int .i64 0) := (blk_cell KP.out 0).trans rfl
  have zP1_ : W12.cell? ⟨gpa, 1, none⟩ = some (.slice none 0 0) := (blk_cell KP.out 1).trans rfl
  have zP2_ : W12.cell? ⟨gpa, 2, none⟩ = some (.slice none 0 0) := (blk_cell KP.out 2).trans rfl
  have zP3_ : W12.cell? ⟨gpa, 3, none⟩ = some (.slice none 0 0) := (blk_cell KP.out 3).trans rfl
  go_wp2_with fail
  obtain ⟨q, hq, hq0, hq1⟩ : ∃ q : Int, parsedR b (d0 - 1) (b.length : Int) = .error (q, 191) ∧ 0 ≤ q ∧ q < b.length := by
    obtain ⟨x, hx, hxe⟩ := HDP.out.2.1
    rw [HBD.out] at hbig' ⊢
    exact parsed_deep [false] g _ _ HT.out.1 (by have := HT.out.2.2.1; omega) ⟨x, hx, by omega⟩ (by omega)
  have hpr : parsedR b (d0 - 1) ((b.length : Int)) = .error (q, 191) := hq
  clear zG0_ zG1_ zG2_ zG3_ zX0_ zX1_ zX2_ zX3_ zY0_ zY1_ zY2_ zY3_ zP0_ zP1_ zP2_ zP3_
  refine (parse_err D d b (d0 - 1) ((b.length : Int)) W12 (q, 191) RB.out.2 RB.out.1 hbl hpr).mono ?_
  rintro e W13 ⟨geb, rfl, hev_, hb_⟩
  have Eb := Aside0.mk hev_
  clear hev_
  have n_ := Aside0.mk (below_step HB.out hb_)
  clear HB
  have HB := n_
  clear n_
  have n_ := Aside0.mk (Handle_below HH.out hb_)
  clear HH
  have HH := n_
  clear n_
  have n_ := Aside0.mk (Kd.C_below HC.out hb_)
  clear HC
  have HC := n_
  clear n_
  have n_ := Aside0.mk (IG.out.below hb_)
  clear IG
  have IG := n_
  clear n_
  have n_ := Aside0.mk (blk_below KG.out hb_)
  clear KG
  have KG := n_
  clear n_
  have n_ := Aside0.mk (And.intro RB.out.1 (Kd.C_below RB.out.2 hb_))
  clear RB
  have RB := n_
  clear n_
  have n_ := Aside0.mk (IX.out.below hb_)
  clear IX
  have IX := n_
  clear n_
  have n_ := Aside0.mk (blk_below KX.out hb_)
  clear KX
  have KX := n_
  clear n_
  have n_ := Aside0.mk (IY.out.below hb_)
  clear IY
  have IY := n_
  clear n_
  have n_ := Aside0.mk (blk_below KY.out hb_)
  clear KY
  have KY := n_
  clear n_
  have n_ := Aside0.mk (ErrV.below Ea.out hb_)
  clear Ea
  have Ea := n_
  clear n_
  have n_ := Aside0.mk (blk_below KP.out hb_)
  clear KP
  have KP := n_
  clear n_
  clear hb_
  clear hpr
  have zG0_ : W13.cell? ⟨gl, 0, none⟩ = some (.int .i64 g.f0) := (blk_cell KG.out 0).trans rfl
  have zG1_ : W13.cell? ⟨gl, 1, none⟩ = some (.slice G1 g.f1.length g1_) := (blk_cell KG.out 1).trans rfl
  have zG2_ : W13.cell? ⟨gl, 2, none⟩ = some (.slice G2 g.f2.length g2_) := (blk_cell KG.out 2).trans rfl
  have zG3_ : W13.cell? ⟨gl, 3, none⟩ = some (.slice G3 g.f3.length g3_) := (blk_cell KG.out 3).trans rfl
  have zX0_ : W13.cell? ⟨gx, 0, none⟩ = some (.int .i64 g.f0) := (blk_cell KX.out 0).trans rfl
  have zX1_ : W13.cell? ⟨gx, 1, none⟩ = some (.slice X1 g.f1.length x1_) := (blk_cell KX.out 1).trans rfl
  have zX2_ : W13.cell? ⟨gx, 2, none⟩ = some (.slice X2 g.f2.length x2_) := (blk_cell KX.out 2).trans rfl
  have zX3_ : W13.cell? ⟨gx, 3, none⟩ = some (.slice X3 g.f3.length x3_) := (blk_cell KX.out 3).trans rfl
  have zY0_ : W13.cell? ⟨gy, 0, none⟩ = some (.int .i64 g.f0) := (blk_cell KY.out 0).trans rfl
  have zY1_ : W13.cell? ⟨gy, 1, none⟩ = some (.slice Y1 g.f1.length y1_) := (blk_cell KY.out 1).trans rfl
  have zY2_ : W13.cell? ⟨gy, 2, none⟩ = some (.slice Y2 g.f2.length y2_) := (blk_cell KY.out 2).trans rfl
  have zY3_ : W13.cell? ⟨gy, 3, none⟩ = some (.slice Y3 g.f3.length y3_) := (blk_cell KY.out 3).trans rfl
  have zP0_ : W13.cell? ⟨gpa, 0, none⟩ = some (.int .i64 0) := (blk_cell KP.out 0).trans rfl
  have zP1_ : W13.cell? ⟨gpa, 1, none⟩ = some (.slice none 0 0) := (blk_cell KP.out 1).trans rfl
  have zP2_ : W13.cell? ⟨gpa, 2, none⟩ = some (.slice none 0 0) := (blk_cell KP.out 2).trans rfl
  have zP3_ : W13.cell? ⟨gpa, 3, none⟩ = some (.slice none 0 0) := (blk_cell KP.out 3).trans rfl
  clear hq
  go_upto_region 13 with fail
  obtain ⟨gq, hgq_⟩ : ∃ x, x = W13.heap.size := ⟨_, rfl⟩
  obtain ⟨W14, hW14_⟩ : ∃ x, x = W13.alloc (.cells #[.int .i64 0, .slice none 0 0, .slice none 0 0, .slice none 0 0] 28) := ⟨_, rfl⟩
  rw [← hW14_, ← hgq_]
  have KQ := Aside0.mk (show W14.heap[gq]? = some (.cells #[.int .i64 0, .slice none 0 0, .slice none 0 0, .slice none 0 0] 28 (0, 0)) by rw [hW14_, hgq_]; exact World.alloc_heap_new _ _)
  have hb_ : Below W13.heap.size W13 W14 := by rw [hW14_]; exact below_alloc (Below.refl _ _) _
  clear hW14_ hgq_
  have n_ := Aside0.mk (below_step HB.out hb_)
  clear HB
  have HB := n_
  clear n_
  have n_ := Aside0.mk (Handle_below HH.out hb_)
  clear HH
  have HH := n_
  clear n_
  have n_ := Aside0.mk (Kd.C_below HC.out hb_)
  clear HC
  have HC := n_
  clear n_
  have n_ := Aside0.mk (IG.out.below hb_)
  clear IG
  have IG := n_
  clear n_
  have n_ := Aside0.mk (blk_below KG.out hb_)
  clear KG
  have KG := n_
  clear n_
  have n_ := Aside0.mk (And.intro RB.out.1 (Kd.C_below RB.out.2 hb_))
  clear RB
  have RB := n_
  clear n_
  have n_ := Aside0.mk (IX.out.below hb_)
  clear IX
  have IX := n_
  clear n_
  have n_ := Aside0.mk (blk_below KX.out hb_)
  clear KX
  have KX := n_
  clear n_
  have n_ := Aside0.mk (IY.out.below hb_)
  clear IY
  have IY := n_
  clear n_
  have n_ := Aside0.mk (blk_below KY.out hb_)
  clear KY
  have KY := n_
  clear n_
  have n_ := Aside0.mk (ErrV.below Ea.out hb_)
  clear Ea
  have Ea := n_
  clear n_
  have n_ := Aside0.mk (blk_below KP.out hb_)
  clear KP
  have KP := n_
  clear n_
  have n_ := Aside0.mk (ErrV.below Eb.out hb_)
  clear Eb
  have Eb := n_
  clear n_
  clear hb_
  clear zG0_ zG1_ zG2_ zG3_ zX0_ zX1_ zX2_ zX3_ zY0_ zY1_ zY2_ zY3_ zP0_ zP1_ zP2_ zP3_
  have zG0_ : W14.cell? ⟨gl, 0, none⟩ = some (.int .i64 g.f0) := (blk_cell KG.out 0).trans rfl
  have zG1_ : W14.cell? ⟨gl, 1, none⟩ = some (.slice G1 g.f1.length g1_) := (blk_cell KG.out 1).trans rfl
  have zG2_ : W14.cell? ⟨gl, 2, none⟩ = some (.slice G2 g.f2.length g2_) := (blk_cell KG.out 2).trans rfl
  have zG3_ : W14.cell? ⟨gl, 3, none⟩ = some (.slice G3 g.f3.length g3_) := (blk_cell KG.out 3).trans rfl
  have zX0_ : W14.cell? ⟨gx, 0, none⟩ = some (.int .i64 g.f0) := (blk_cell KX.out 0).trans rfl
  have zX1_ : W14.cell? ⟨gx, 1, none⟩ = some (.slice X1 g.f1.length x1_) := (blk_cell KX.out 1).trans rfl
  have zX2_ : W14.cell? ⟨gx, 2, none⟩ = some (.slice X2 g.f2.length x2_) := (blk_cell KX.out 2).trans rfl
  have zX3_ : W14.cell? ⟨gx, 3, none⟩ = some (.slice X3 g.f3.length x3_) := (blk_cell KX.out 3).trans rfl
  have zY0_ : W14.cell? ⟨gy, 0, none⟩ = some (.int .i64 g.f0) := (blk_cell KY.out 0).trans rfl
  have zY1_ : W14.cell? ⟨gy, 1, none⟩ = some (.slice Y1 g.f1.length y1_) := (blk_cell KY.out 1).trans rfl
  have zY2_ : W14.cell? ⟨gy, 2, none⟩ = some (.slice Y2 g.f2.length y2_) := (blk_cell KY.out 2).trans rfl
  have zY3_ : W14.cell? ⟨gy, 3, none⟩ = some (.slice Y3 g.f3.length y3_) := (blk_cell KY.out 3).trans rfl
  have zP0_ : W14.cell? ⟨gpa, 0, none⟩ = some (.int .i64 0) := (blk_cell KP.out 0).trans rfl
  have zP1_ : W14.cell? ⟨gpa, 1, none⟩ = some (.slice none 0 0) := (blk_cell KP.out 1).trans rfl
  have zP2_ : W14.cell? ⟨gpa, 2, none⟩ = some (.slice none 0 0) := (blk_cell KP.out 2).trans rfl
  have zP3_ : W14.cell? ⟨gpa, 3, none⟩ = some (.slice none 0 0) := (blk_cell KP.out 3).trans rfl
  have zQ0_ : W14.cell? ⟨gq, 0, none⟩ = some (.int .i64 0) := (blk_cell KQ.out 0).trans rfl
  have zQ1_ : W14.cell? ⟨gq, 1, none⟩ = some (.slice none 0 0) := (blk_cell KQ.out 1).trans rfl
  have zQ2_ : W14.cell? ⟨gq, 2, none⟩ = some (.slice none 0 0) := (blk_cell KQ.out 2).trans rfl
  have zQ3_ : W14.cell? ⟨gq, 3, none⟩ = some (.slice none 0 0) := (blk_cell KQ.out 3).trans rfl
  go_wp2_with fail
  have hpr : parsedR b (d0) (-1 - mo) = .error (0, 192) := by rw [parsed_big (by omega)]; congr 2; omega
  clear zG0_ zG1_ zG2_ zG3_ zX0_ zX1_ zX2_ zX3_ zY0_ zY1_ zY2_ zY3_ zP0_ zP1_ zP2_ zP3_ zQ0_ zQ1_ zQ2_ zQ3_
  refine (parse_err D d b (d0) (-1 - mo) W14 (0, 192) RB.out.2 RB.out.1 hbl hpr).mono ?_
  rintro e W15 ⟨gec, rfl, hev_, hb_⟩
  have Ec := Aside0.mk hev_
  clear hev_
  have n_ := Aside0.mk (below_step HB.out hb_)
  clear HB
  have HB := n_
  clear n_
  have n_ := Aside0.mk (Handle_below HH.out hb_)
  clear HH
  have HH := n_
  clear n_
  have n_ := Aside0.mk (Kd.C_below HC.out hb_)
  clear HC
  have HC := n_
  clear n_
  have n_ := Aside0.mk (IG.out.below hb_)
  clear IG
  have IG := n_
  clear n_
  have n_ := Aside0.mk (blk_below KG.out hb_)
  clear KG
  have KG := n_
  clear n_
  have n_ := Aside0.mk (And.intro RB.out.1 (Kd.C_below RB.out.2 hb_))
  clear RB
  have RB := n_
  clear n_
  have n_ := Aside0.mk (IX.out.below hb_)
  clear IX
  have IX := n_
  clear n_
  have n_ := Aside0.mk (blk_below KX.out hb_)
  clear KX
  have KX := n_
  clear n_
  have n_ := Aside0.mk (IY.out.below hb_)
  clear IY
  have IY := n_
  clear n_
  have n_ := Aside0.mk (blk_below KY.out hb_)
  clear KY
  have KY := n_
  clear n_
  have n_ := Aside0.mk (ErrV.below Ea.out hb_)
  clear Ea
  have Ea := n_
  clear n_
  have n_ := Aside0.mk (blk_below KP.out hb_)
  clear KP
  have KP := n_
  clear n_
  have n_ := Aside0.mk (ErrV.below Eb.out hb_)
  clear Eb
  have Eb := n_
  clear n_
  have n_ := Aside0.mk (blk_below KQ.out hb_)
  clear KQ
  have KQ := n_
  clear n_
  clear hb_
  clear hpr
  have zG0_ : W15.cell? ⟨gl, 0, none⟩ = some (.int .i64 g.f0) := (blk_cell KG.out 0).trans rfl
  have zG1_ : W15.cell? ⟨gl, 1, none⟩ = some (.slice G1 g.f1.length g1_) := (blk_cell KG.out 1).trans rfl
  have zG2_ : W15.cell? ⟨gl, 2, none⟩ = some (.slice G2 g.f2.length g2_) := (blk_cell KG.out 2).trans rfl
  have zG3_ : W15.cell? ⟨gl, 3, none⟩ = some (.slice G3 g.f3.length g3_) := (blk_cell KG.out 3).trans rfl
  have zX0_ : W15.cell? ⟨gx, 0, none⟩ = some (.int .i64 g.f0) := (blk_cell KX.out 0).trans rfl
  have zX1_ : W15.cell? ⟨gx, 1, none⟩ = some (.slice X1 g.f1.length x1_) := (blk_cell KX.out 1).trans rfl
  have zX2_ : W15.cell? ⟨gx, 2, none⟩ = some (.slice X2 g.f2.length x2_) := (blk_cell KX.out 2).trans rfl
  have zX3_ : W15.cell? ⟨gx, 3, none⟩ = some (.slice X3 g.f3.length x3_) := (blk_cell KX.out 3).trans rfl
  have zY0_ : W15.cell? ⟨gy, 0, none⟩ = some (.int .i64 g.f0) := (blk_cell KY.out 0).trans rfl
  have zY1_ : W15.cell? ⟨gy, 1, none⟩ = some (.slice Y1 g.f1.length y1_) := (blk_cell KY.out 1).trans rfl
  have zY2_ : W15.cell? ⟨gy, 2, none⟩ = some (.slice Y2 g.f2.length y2_) := (blk_cell KY.out 2).trans rfl
  have zY3_ : W15.cell? ⟨gy, 3, none⟩ = some (.slice Y3 g.f3.length y3_) := (blk_cell KY.out 3).trans rfl
  have zP0_ : W15.cell? ⟨gpa, 0, none⟩ = some (.int .i64 0) := (blk_cell KP.out 0).trans rfl
  have zP1_ : W15.cell? ⟨gpa, 1, none⟩ = some (.slice none 0 0) := (blk_cell KP.out 1).trans rfl
  have zP2_ : W15.cell? ⟨gpa, 2, none⟩ = some (.slice none 0 0) := (blk_cell KP.out 2).trans rfl
  have zP3_ : W15.cell? ⟨gpa, 3, none⟩ = some (.slice none 0 0) := (blk_cell KP.out 3).trans rfl
  have zQ0_ : W15.cell? ⟨gq, 0, none⟩ = some (.int .i64 0) := (blk_cell KQ.out 0).trans rfl
  have zQ1_ : W15.cell? ⟨gq, 1, none⟩ = some (.slice none 0 0) := (blk_cell KQ.out 1).trans rfl
  have zQ2_ : W15.cell? ⟨gq, 2, none⟩ = some (.slice none 0 0) := (blk_cell KQ.out 2).trans rfl
  have zQ3_ : W15.cell? ⟨gq, 3, none⟩ = some (.slice none 0 0) := (blk_cell KQ.out 3).trans rfl
  go_upto_region 14 with fail
  obtain ⟨gr, hgr_⟩ : ∃ x, x = W15.heap.size := ⟨_, rfl⟩
  obtain ⟨W16, hW16_⟩ : ∃ x, x = W15.alloc (.cells #[.int .i64 0, .slice none 0 0, .slice none 0 0, .slice none 0 0] 28) := ⟨_, rfl⟩
  rw [← hW16_, ← hgr_]
  have KR := Aside0.mk (show W16.heap[gr]? = some (.cells #[.int .i64 0, .slice none 0 0, .slice none 0 0, .slice none 0 0] 28 (0, 0)) by rw [hW16_, hgr_]; exact World.alloc_heap_new _ _)
  have hb_ : Below W15.heap.size W15 W16 := by rw [hW16_]; exact below_alloc (Below.refl _ _) _
  clear hW16_ hgr_
  have n_ := Aside0.mk (below_step HB.out hb_)
  clear HB
  have HB := n_
  clear n_
  have n_ := Aside0.mk (Handle_below HH.out hb_)
  clear HH
  have HH := n_
  clear n_
  have n_ := Aside0.mk (Kd.C_below HC.out hb_)
  clear HC
  have HC := n_
  clear n_
  have n_ := Aside0.mk (IG.out.below hb_)
  clear IG
  have IG := n_
  clear n_
  have n_ := Aside0.mk (blk_below KG.out hb_)
  clear KG
  have KG := n_
  clear n_
  have n_ := Aside0.mk (And.intro RB.out.1 (Kd.C_below RB.out.2 hb_))
  clear RB
  have RB := n_
  clear n_
  have n_ := Aside0.mk (IX.out.below hb_)
  clear IX
  have IX := n_
  clear n_
  have n_ := Aside0.mk (blk_below KX.out hb_)
  clear KX
  have KX := n_
  clear n_
  have n_ := Aside0.mk (IY.out.below hb_)
  clear IY
  have IY := n_
  clear n_
  have n_ := Aside0.mk (blk_below KY.out hb_)
  clear KY
  have KY := n_
  clear n_
  have n_ := Aside0.mk (ErrV.below Ea.out hb_)
  clear Ea
  have Ea := n_
  clear n_
  have n_ := Aside0.mk (blk_below KP.out hb_)
  clear KP
  have KP := n_
  clear n_
  have n_ := Aside0.mk (ErrV.below Eb.out hb_)
  clear Eb
  have Eb := n_
  clear n_
  have n_ := Aside0.mk (blk_below KQ.out hb_)
  clear KQ
  have KQ := n_
  clear n_
  have n_ := Aside0.mk (ErrV.below Ec.out hb_)
  clear Ec
  have Ec := n_
  clear n_
  clear hb_
  clear zG0_ zG1_ zG2_ zG3_ zX0_ zX1_ zX2_ zX3_ zY0_ zY1_ zY2_ zY3_ zP0_ zP1_ zP2_ zP3_ zQ0_ zQ1_ zQ2_ zQ3_
  have zG0_ : W16.cell? ⟨gl, 0, none⟩ = some (.int .i64 g.f0) := (blk_cell KG.out 0).trans rfl
  have zG1_ : W16.cell? ⟨gl, 1, none⟩ = some (.slice G1 g.f1.length g1_) := (blk_cell KG.out 1).trans rfl
  have zG2_ : W16.cell? ⟨gl, 2, none⟩ = some (.slice G2 g.f2.length g2_) := (blk_cell KG.out 2).trans rfl
  have zG3_ : W16.cell? ⟨gl, 3, none⟩ = some (.slice G3 g.f3.length g3_) := (blk_cell KG.out 3).trans rfl
  have zX0_ : W16.cell? ⟨gx, 0, none⟩ = some (.int .i64 g.f0) := (blk_cell KX.out 0).trans rfl
  have zX1_ : W16.cell? ⟨gx, 1, none⟩ = some (.slice X1 g.f1.length x1_) := (blk_cell KX.out 1).trans rfl
  have zX2_ : W16.cell? ⟨gx, 2, none⟩ = some (.slice X2 g.f2.length x2_) := (blk_cell KX.out 2).trans rfl
  have zX3_ : W16.cell? ⟨gx, 3, none⟩ = some (.slice X3 g.f3.length x3_) := (blk_cell KX.out 3).trans rfl
  have zY0_ : W16.cell? ⟨gy, 0, none⟩ = some (.int .i64 g.f0) := (blk_cell KY.out 0).trans rfl
  have zY1_ : W16.cell? ⟨gy, 1, none⟩ = some (.slice Y1 g.f1.length y1_) := (blk_cell KY.out 1).trans rfl
  have zY2_ : W16.cell? ⟨gy, 2, none⟩ = some (.slice Y2 g.f2.length y2_) := (blk_cell KY.out 2).trans rfl
  have zY3_ : W16.cell? ⟨gy, 3, none⟩ = some (.slice Y3 g.f3.length y3_) := (blk_cell KY.out 3).trans rfl
  have zP0_ : W16.cell? ⟨gpa, 0, none⟩ = some (.int .i64 0) := (blk_cell KP.out 0).trans rfl
  have zP1_ : W16.cell? ⟨gpa, 1, none⟩ = some (.slice none 0 0) := (blk_cell KP.out 1).trans rfl
  have zP2_ : W16.cell? ⟨gpa, 2, none⟩ = some (.slice none 0 0) := (blk_cell KP.out 2).trans rfl
  have zP3_ : W16.cell? ⟨gpa, 3, none⟩ = some (.slice none 0 0) := (blk_cell KP.out 3).trans rfl
  have zQ0_ : W16.cell? ⟨gq, 0, none⟩ = some (.int .i64 0) := (blk_cell KQ.out 0).trans rfl
  have zQ1_ : W16.cell? ⟨gq, 1, none⟩ = some (.slice none 0 0) := (blk_cell KQ.out 1).trans rfl
  have zQ2_ : W16.cell? ⟨gq, 2, none⟩ = some (.slice none 0 0) := (blk_cell KQ.out 2).trans rfl
  have zQ3_ : W16.cell? ⟨gq, 3, none⟩ = some (.slice none 0 0) := (blk_cell KQ.out 3).trans rfl
  have zR0_ : W16.cell? ⟨gr, 0, none⟩ = some (.int .i64 0) := (blk_cell KR.out 0).trans rfl
  have zR1_ : W16.cell? ⟨gr, 1, none⟩ = some (.slice none 0 0) := (blk_cell KR.out 1).trans rfl
  have zR2_ : W16.cell? ⟨gr, 2, none⟩ = some (.slice none 0 0) := (blk_cell KR.out 2).trans rfl
  have zR3_ : W16.cell? ⟨gr, 3, none⟩ = some (.slice none 0 0) := (blk_cell KR.out 3).trans rfl
  go_wp2_with fail
  have hpr : parsedR b (-mo) ((b.length : Int)) = .error (0, 191) := by rw [HBD.out] at hbig' ⊢; exact parsed_low [false] g _ _ HT.out.1 (by omega) (by omega)
  clear zG0_ zG1_ zG2_ zG3_ zX0_ zX1_ zX2_ zX3_ zY0_ zY1_ zY2_ zY3_ zP0_ zP1_ zP2_ zP3_ zQ0_ zQ1_ zQ2_ zQ3_ zR0_ zR1_ zR2_ zR3_
  refine (parse_err D d b (-mo) ((b.length : Int)) W16 (0, 191) RB.out.2 RB.out.1 hbl hpr).mono ?_
  rintro e W17 ⟨ged, rfl, hev_, hb_⟩
  have Ed := Aside0.mk hev_
  clear hev_
  have n_ := Aside0.mk (below_step HB.out hb_)
  clear HB
  have HB := n_
  clear n_
  have n_ := Aside0.mk (Handle_below HH.out hb_)
  clear HH
  have HH := n_
  clear n_
  have n_ := Aside0.mk (Kd.C_below HC.out hb_)
  clear HC
  have HC := n_
  clear n_
  have n_ := Aside0.mk (IG.out.below hb_)
  clear IG
  have IG := n_
  clear n_
  have n_ := Aside0.mk (blk_below KG.out hb_)
  clear KG
  have KG := n_
  clear n_
  have n_ := Aside0.mk (And.intro RB.out.1 (Kd.C_below RB.out.2 hb_))
  clear RB
  have RB := n_
  clear n_
  have n_ := Aside0.mk (IX.out.below hb_)
  clear IX
  have IX := n_
  clear n_
  have n_ := Aside0.mk (blk_below KX.out hb_)
  clear KX
  have KX := n_
  clear n_
  have n_ := Aside0.mk (IY.out.below hb_)
  clear IY
  have IY := n_
  clear n_
  have n_ := Aside0.mk (blk_below KY.out hb_)
  clear KY
  have KY := n_
  clear n_
  have n_ := Aside0.mk (ErrV.below Ea.out hb_)
  clear Ea
  have Ea := n_
  clear n_
  have n_ := Aside0.mk (blk_below KP.out hb_)
  clear KP
  have KP := n_
  clear n_
  have n_ := Aside0.mk (ErrV.below Eb.out hb_)
  clear Eb
  have Eb := n_
  clear n_
  have n_ := Aside0.mk (blk_below KQ.out hb_)
  clear KQ
  have KQ := n_
  clear n_
  have n_ := Aside0.mk (ErrV.below Ec.out hb_)
  clear Ec
  have Ec := n_
  clear n_
  have n_ := Aside0.mk (blk_below KR.out hb_)
  clear KR
  have KR := n_
  clear n_
  clear hb_
  clear hpr
  have zG0_ : W17.cell? ⟨gl, 0, none⟩ = some (.int .i64 g.f0) := (blk_cell KG.out 0).trans rfl
  have zG1_ : W17.cell? ⟨gl, 1, none⟩ = some (.slice G1 g.f1.length g1_) := (blk_cell KG.out 1).trans rfl
  have zG2_ : W17.cell? ⟨gl, 2, none⟩ = some (.slice G2 g.f2.length g2_) := (blk_cell KG.out 2).trans rfl
  have zG3_ : W17.cell? ⟨gl, 3, none⟩ = some (.slice G3 g.f3.length g3_) := (blk_cell KG.out 3).trans rfl
  have zX0_ : W17.cell? ⟨gx, 0, none⟩ = some (.int .i64 g.f0) := (blk_cell KX.out 0).trans rfl
  have zX1_ : W17.cell? ⟨gx, 1, none⟩ = some (.slice X1 g.f1.length x1_) := (blk_cell KX.out 1).trans rfl
  have zX2_ : W17.cell? ⟨gx, 2, none⟩ = some (.slice X2 g.f2.length x2_) := (blk_cell KX.out 2).trans rfl
  have zX3_ : W17.cell? ⟨gx, 3, none⟩ = some (.slice X3 g.f3.length x3_) := (blk_cell KX.out 3).trans rfl
  have zY0_ : W17.cell? ⟨gy, 0, none⟩ = some (.int .i64 g.f0) := (blk_cell KY.out 0).trans rfl
  have zY1_ : W17.cell? ⟨gy, 1, none⟩ = some (.slice Y1 g.f1.length y1_) := (blk_cell KY.out 1).trans rfl
  have zY2_ : W17.cell? ⟨gy, 2, none⟩ = some (.slice Y2 g.f2.length y2_) := (blk_cell KY.out 2).trans rfl
  have zY3_ : W17.cell? ⟨gy, 3, none⟩ = some (.slice Y3 g.f3.length y3_) := (blk_cell KY.out 3).trans rfl
  have zP0_ : W17.cell? ⟨gpa, 0, none⟩ = some (.int .i64 0) := (blk_cell KP.out 0).trans rfl
  have zP1_ : W17.cell? ⟨gpa, 1, none⟩ = some (.slice none 0 0) := (blk_cell KP.out 1).trans rfl
  have zP2_ : W17.cell? ⟨gpa, 2, none⟩ = some (.slice none 0 0) := (blk_cell KP.out 2).trans rfl
  have zP3_ : W17.cell? ⟨gpa, 3, none⟩ = some (.slice none 0 0) := (blk_cell KP.out 3).trans rfl
  have zQ0_ : W17.cell? ⟨gq, 0, none⟩ = some (.int .i64 0) := (blk_cell KQ.out 0).trans rfl
  have zQ1_ : W17.cell? ⟨gq, 1, none⟩ = some (.slice none 0 0) := (blk_cell KQ.out 1).trans rfl
  have zQ2_ : W17.cell? ⟨gq, 2, none⟩ = some (.slice none 0 0) := (blk_cell KQ.out 2).trans rfl
  have zQ3_ : W17.cell? ⟨gq, 3, none⟩ = some (.slice none 0 0) := (blk_cell KQ.out 3).trans rfl
  have zR0_ : W17.cell? ⟨gr, 0, none⟩ = some (.int .i64 0) := (blk_cell KR.out 0).trans rfl
  have zR1_ : W17.cell? ⟨gr, 1, none⟩ = some (.slice none 0 0) := (blk_cell KR.out 1).trans rfl
  have zR2_ : W17.cell? ⟨gr, 2, none⟩ = some (.slice none 0 0) := (blk_cell KR.out 2).trans rfl
  have zR3_ : W17.cell? ⟨gr, 3, none⟩ = some (.slice none 0 0) := (blk_cell KR.out 3).trans rfl
  go_upto_region 15 with fail
  obtain ⟨gs, hgs_⟩ : ∃ x, x = W17.heap.size := ⟨_, rfl⟩
  obtain ⟨W18, hW18_⟩ : ∃ x, x = W17.alloc (.cells #[.int .i64 0, .slice none 0 0, .slice none 0 0, .slice none 0 0] 28) := ⟨_, rfl⟩
  rw [← hW18_, ← hgs_]
  have KS := Aside0.mk (show W18.heap[gs]? = some (.cells #[.int .i64 0, .slice none 0 0, .slice none 0 0, .slice none 0 0] 28 (0, 0)) by rw [hW18_, hgs_]; exact World.alloc_heap_new _ _)
  have hb_ : Below W17.heap.size W17 W18 := by rw [hW18_]; exact below_alloc (Below.refl _ _) _
  clear hW18_ hgs_
  have n_ := Aside0.mk (below_step HB.out hb_)
  clear HB
  have HB := n_
  clear n_
  have n_ := Aside0.mk (Handle_below HH.out hb_)
  clear HH
  have HH := n_
  clear n_
  have n_ := Aside0.mk (Kd.C_below HC.out hb_)
  clear HC
  have HC := n_
  clear n_
  have n_ := Aside0.mk (IG.out.below hb_)
  clear IG
  have IG := n_
  clear n_
  have n_ := Aside0.mk (blk_below KG.out hb_)
  clear KG
  have KG := n_
  clear n_
  have n_ := Aside0.mk (And.intro RB.out.1 (Kd.C_below RB.out.2 hb_))
  clear RB
  have RB := n_
  clear n_
  have n_ := Aside0.mk (IX.out.below hb_)
  clear IX
  have IX := n_
  clear n_
  have n_ := Aside0.mk (blk_below KX.out hb_)
  clear KX
  have KX := n_
  clear n_
  have n_ := Aside0.mk (IY.out.below hb_)
  clear IY
  have IY := n_
  clear n_
  have n_ := Aside0.mk (blk_below KY.out hb_)
  clear KY
  have KY := n_
  clear n_
  have n_ := Aside0.mk (ErrV.below Ea.out hb_)
  clear Ea
  have Ea := n_
  clear n_
  have n_ := Aside0.mk (blk_below KP.out hb_)
  clear KP
  have KP := n_
  clear n_
  have n_ := Aside0.mk (ErrV.below Eb.out hb_)
  clear Eb
  have Eb := n_
  clear n_
  have n_ := Aside0.mk (blk_below KQ.out hb_)
  clear KQ
  have KQ := n_
  clear n_
  have n_ := Aside0.mk (ErrV.below Ec.out hb_)
  clear Ec
  have Ec := n_
  clear n_
  have n_ := Aside0.mk (blk_below KR.out hb_)
  clear KR
  have KR := n_
  clear n_
  have n_ := Aside0.mk (ErrV.below Ed.out hb_)
  clear Ed
  have Ed := n_
  clear n_
  clear hb_
  clear zG0_ zG1_ zG2_ zG3_ zX0_ zX1_ zX2_ zX3_ zY0_ zY1_ zY2_ zY3_ zP0_ zP1_ zP2_ zP3_ zQ0_ zQ1_ zQ2_ zQ3_ zR0_ zR1_ zR2_ zR3_
  have zG0_ : W18.cell? ⟨gl, 0, none⟩ = some (.int .i64 g.f0) := (blk_cell KG.out 0).trans rfl
  have zG1_ : W18.cell? ⟨gl, 1, none⟩ = some (.slice G1 g.f1.length g1_) := (blk_cell KG.out 1).trans rfl
  have zG2_ : W18.cell? ⟨gl, 2, none⟩ = some (.slice G2 g.f2.length g2_) := (blk_cell KG.out 2).trans rfl
  have zG3_ : W18.cell? ⟨gl, 3, none⟩ = some (.slice G3 g.f3.length g3_) := (blk_cell KG.out 3).trans rfl
  have zX0_ : W18.cell? ⟨gx, 0, none⟩ = some (.int .i64 g.f0) := (blk_cell KX.out 0).trans rfl
  have zX1_ : W18.cell? ⟨gx, 1, none⟩ = some (.slice X1 g.f1.length x1_) := (blk_cell KX.out 1).trans rfl
  have zX2_ : W18.cell? ⟨gx, 2, none⟩ = some (.slice X2 g.f2.length x2_) := (blk_cell KX.out 2).trans rfl
  have zX3_ : W18.cell? ⟨gx, 3, none⟩ = some (.slice X3 g.f3.length x3_) := (blk_cell KX.out 3).trans rfl
  have zY0_ : W18.cell? ⟨gy, 0, none⟩ = some (.int .i64 g.f0) := (blk_cell KY.out 0).trans rfl
  have zY1_ : W18.cell? ⟨gy, 1, none⟩ = some (.slice Y1 g.f1.length y1_) := (blk_cell KY.out 1).trans rfl
  have zY2_ : W18.cell? ⟨gy, 2, none⟩ = some (.slice Y2 g.f2.length y2_) := (blk_cell KY.out 2).trans rfl
  have zY3_ : W18.cell? ⟨gy, 3, none⟩ = some (.slice Y3 g.f3.length y3_) := (blk_cell KY.out 3).trans rfl
  have zP0_ : W18.cell? ⟨gpa, 0, none⟩ = some (.int .i64 0) := (blk_cell KP.out 0).trans rfl
  have zP1_ : W18.cell? ⟨gpa, 1, none⟩ = some (.slice none 0 0) := (blk_cell KP.out 1).trans rfl
  have zP2_ : W18.cell? ⟨gpa, 2, none⟩ = some (.slice none 0 0) := (blk_cell KP.out 2).trans rfl
  have zP3_ : W18.cell? ⟨gpa, 3, none⟩ = some (.slice none 0 0) := (blk_cell KP.out 3).trans rfl
  have zQ0_ : W18.cell? ⟨gq, 0, none⟩ = some (.int .i64 0) := (blk_cell KQ.out 0).trans rfl
  have zQ1_ : W18.cell? ⟨gq, 1, none⟩ = some (.slice none 0 0) := (blk_cell KQ.out 1).trans rfl
  have zQ2_ : W18.cell? ⟨gq, 2, none⟩ = some (.slice none 0 0) := (blk_cell KQ.out 2).trans rfl
  have zQ3_ : W18.cell? ⟨gq, 3, none⟩ = some (.slice none 0 0) := (blk_cell KQ.out 3).trans rfl
  have zR0_ : W18.cell? ⟨gr, 0, none⟩ = some (.int .i64 0) := (blk_cell KR.out 0).trans rfl
  have zR1_ : W18.cell? ⟨gr, 1, none⟩ = some (.slice none 0 0) := (blk_cell KR.out 1).trans rfl
  have zR2_ : W18.cell? ⟨gr, 2, none⟩ = some (.slice none 0 0) := (blk_cell KR.out 2).trans rfl
  have zR3_ : W18.cell? ⟨gr, 3, none⟩ = some (.slice none 0 0) := (blk_cell KR.out 3).trans rfl
  have zS0_ : W18.cell? ⟨gs, 0, none⟩ = some (.int .i64 0) := (blk_cell KS.out 0).trans rfl
  have zS1_ : W18.cell? ⟨gs, 1, none⟩ = some (.slice none 0 0) := (blk_cell KS.out 1).trans rfl
  have zS2_ : W18.cell? ⟨gs, 2, none⟩ = some (.slice none 0 0) := (blk_cell KS.out 2).trans rfl
  have zS3_ : W18.cell? ⟨gs, 3, none⟩ = some (.slice none 0 0) := (blk_cell KS.out 3).trans rfl
  go_wp2_with fail
  clear zG0_ zG1_ zG2_ zG3_ zX0_ zX1_ zX2_ zX3_ zY0_ zY1_ zY2_ zY3_ zP0_ zP1_ zP2_ zP3_ zQ0_ zQ1_ zQ2_ zQ3_ zR0_ zR1_ zR2_ zR3_ zS0_ zS1_ zS2_ zS3_
  refine (equal_calls g.bulk _ _ g g W18 IG.out IX.out (Nat.le_refl _) (by have := HT.out.2.2.1; omega) (by have := HT.out.2.2.1; omega)).mono ?_
  rintro e W19 ⟨rfl, hb_⟩
  rw [eqG_self]
  have n_ := Aside0.mk (below_step HB.out hb_)
  clear HB
  have HB := n_
  clear n_
  have n_ := Aside0.mk (Handle_below HH.out hb_)
  clear HH
  have HH := n_
  clear n_
  have n_ := Aside0.mk (Kd.C_below HC.out hb_)
  clear HC
  have HC := n_
  clear n_
  have n_ := Aside0.mk (IG.out.below hb_)
  clear IG
  have IG := n_
  clear n_
  have n_ := Aside0.mk (blk_below KG.out hb_)
  clear KG
  have KG := n_
  clear n_
  have n_ := Aside0.mk (And.intro RB.out.1 (Kd.C_below RB.out.2 hb_))
  clear RB
  have RB := n_
  clear n_
  have n_ := Aside0.mk (IX.out.below hb_)
  clear IX
  have IX := n_
  clear n_
  have n_ := Aside0.mk (blk_below KX.out hb_)
  clear KX
  have KX := n_
  clear n_
  have n_ := Aside0.mk (IY.out.below hb_)
  clear IY
  have IY := n_
  clear n_
  have n_ := Aside0.mk (blk_below KY.out hb_)
  clear KY
  have KY := n_
  clear n_
  have n_ := Aside0.mk (ErrV.below Ea.out hb_)
  clear Ea
  have Ea := n_
  clear n_
  have n_ := Aside0.mk (blk_below KP.out hb_)
  clear KP
  have KP := n_
  clear n_
  have n_ := Aside0.mk (ErrV.below Eb.out hb_)
  clear Eb
  have Eb := n_
  clear n_
  have n_ := Aside0.mk (blk_below KQ.out hb_)
  clear KQ
  have KQ := n_
  clear n_
  have n_ := Aside0.mk (ErrV.below Ec.out hb_)
  clear Ec
  have Ec := n_
  clear n_
  have n_ := Aside0.mk (blk_below KR.out hb_)
  clear KR
  have KR := n_
  clear n_
  have n_ := Aside0.mk (ErrV.below Ed.out hb_)
  clear Ed
  have Ed := n_
  clear n_
  have n_ := Aside0.mk (blk_below KS.out hb_)
  clear KS
  have KS := n_
  clear n_
  clear hb_
  have zG0_ : W19.cell? ⟨gl, 0, none⟩ = some (.int .i64 g.f0) := (blk_cell KG.out 0).trans rfl
  have zG1_ : W19.cell? ⟨gl, 1, none⟩ = some (.slice G1 g.f1.length g1_) := (blk_cell KG.out 1).trans rfl
  have zG2_ : W19.cell? ⟨gl, 2, none⟩ = some (.slice G2 g.f2.length g2_) := (blk_cell KG.out 2).trans rfl
  have zG3_ : W19.cell? ⟨gl, 3, none⟩ = some (.slice G3 g.f3.length g3_) := (blk_cell KG.out 3).trans rfl
  have zX0_ : W19.cell? ⟨gx, 0, none⟩ = some (.int .i64 g.f0) := (blk_cell KX.out 0).trans rfl
  have zX1_ : W19.cell? ⟨gx, 1, none⟩ = some (.slice X1 g.f1.length x1_) := (blk_cell KX.out 1).trans rfl
  have zX2_ : W19.cell? ⟨gx, 2, none⟩ = some (.slice X2 g.f2.length x2_) := (blk_cell KX.out 2).trans rfl
  have zX3_ : W19.cell? ⟨gx, 3, none⟩ = some (.slice X3 g.f3.length x3_) := (blk_cell KX.out 3).trans rfl
  have zY0_ : W19.cell? ⟨gy, 0, none⟩ = some (.int .i64 g.f0) := (blk_cell KY.out 0).trans rfl
  have zY1_ : W19.cell? ⟨gy, 1, none⟩ = some (.slice Y1 g.f1.length y1_) := (blk_cell KY.out 1).trans rfl
  have zY2_ : W19.cell? ⟨gy, 2, none⟩ = some (.slice Y2 g.f2.length y2_) := (blk_cell KY.out 2).trans rfl
  have zY3_ : W19.cell? ⟨gy, 3, none⟩ = some (.slice Y3 g.f3.length y3_) := (blk_cell KY.out 3).trans rfl
  have zP0_ : W19.cell? ⟨gpa, 0, none⟩ = some (.int .i64 0) := (blk_cell KP.out 0).trans rfl
  have zP1_ : W19.cell? ⟨gpa, 1, none⟩ = some (.slice none 0 0) := (blk_cell KP.out 1).trans rfl
  have zP2_ : W19.cell? ⟨gpa, 2, none⟩ = some (.slice none 0 0) := (blk_cell KP.out 2).trans rfl
  have zP3_ : W19.cell? ⟨gpa, 3, none⟩ = some (.slice none 0 0) := (blk_cell KP.out 3).trans rfl
  have zQ0_ : W19.cell? ⟨gq, 0, none⟩ = some (.int .i64 0) := (blk_cell KQ.out 0).trans rfl
  have zQ1_ : W19.cell? ⟨gq, 1, none⟩ = some (.slice none 0 0) := (blk_cell KQ.out 1).trans rfl
  have zQ2_ : W19.cell? ⟨gq, 2, none⟩ = some (.slice none 0 0) := (blk_cell KQ.out 2).trans rfl
  have zQ3_ : W19.cell? ⟨gq, 3, none⟩ = some (.slice none 0 0) := (blk_cell KQ.out 3).trans rfl
  have zR0_ : W19.cell? ⟨gr, 0, none⟩ = some (.int .i64 0) := (blk_cell KR.out 0).trans rfl
  have zR1_ : W19.cell? ⟨gr, 1, none⟩ = some (.slice none 0 0) := (blk_cell KR.out 1).trans rfl
  have zR2_ : W19.cell? ⟨gr, 2, none⟩ = some (.slice none 0 0) := (blk_cell KR.out 2).trans rfl
  have zR3_ : W19.cell? ⟨gr, 3, none⟩ = some (.slice none 0 0) := (blk_cell KR.out 3).trans rfl
  have zS0_ : W19.cell? ⟨gs, 0, none⟩ = some (.int .i64 0) := (blk_cell KS.out 0).trans rfl
  have zS1_ : W19.cell? ⟨gs, 1, none⟩ = some (.slice none 0 0) := (blk_cell KS.out 1).trans rfl
  have zS2_ : W19.cell? ⟨gs, 2, none⟩ = some (.slice none 0 0) := (blk_cell KS.out 2).trans rfl
  have zS3_ : W19.cell? ⟨gs, 3, none⟩ = some (.slice none 0 0) := (blk_cell KS.out 3).trans rfl
  go_wp2_with fail
  clear zG0_ zG1_ zG2_ zG3_ zX0_ zX1_ zX2_ zX3_ zY0_ zY1_ zY2_ zY3_ zP0_ zP1_ zP2_ zP3_ zQ0_ zQ1_ zQ2_ zQ3_ zR0_ zR1_ zR2_ zR3_ zS0_ zS1_ zS2_ zS3_
  refine (equal_calls g.bulk _ _ g g W19 IG.out IY.out (Nat.le_refl _) (by have := HT.out.2.2.1; omega) (by have := HT.out.2.2.1; omega)).mono ?_
  rintro e W20 ⟨rfl, hb_⟩
  rw [eqG_self]
  have n_ := Aside0.mk (below_step HB.out hb_)
  clear HB
  have HB := n_
  clear n_
  have n_ := Aside0.mk (Handle_below HH.out hb_)
  clear HH
  have HH := n_
  clear n_
  have n_ := Aside0.mk (Kd.C_below HC.out hb_)
  clear HC
  have HC := n_
  clear n_
  have n_ := Aside0.mk (IG.out.below hb_)
  clear IG
  have IG := n_
  clear n_
  have n_ := Aside0.mk (blk_below KG.out hb_)
  clear KG
  have KG := n_
  clear n_
  have n_ := Aside0.mk (And.intro RB.out.1 (Kd.C_below RB.out.2 hb_))
  clear RB
  have RB := n_
  clear n_
  have n_ := Aside0.mk (IX.out.below hb_)
  clear IX
  have IX := n_
  clear n_
  have n_ := Aside0.mk (blk_below KX.out hb_)
  clear KX
  have KX := n_
  clear n_
  have n_ := Aside0.mk (IY.out.below hb_)
  clear IY
  have IY := n_
  clear n_
  have n_ := Aside0.mk (blk_below KY.out hb_)
  clear KY
  have KY := n_
  clear n_
  have n_ := Aside0.mk (ErrV.below Ea.out hb_)
  clear Ea
  have Ea := n_
  clear n_
  have n_ := Aside0.mk (blk_below KP.out hb_)
  clear KP
  have KP := n_
  clear n_
  have n_ := Aside0.mk (ErrV.below Eb.out hb_)
  clear Eb
  have Eb := n_
  clear n_
  have n_ := Aside0.mk (blk_below KQ.out hb_)
  clear KQ
  have KQ := n_
  clear n_
  have n_ := Aside0.mk (ErrV.below Ec.out hb_)
  clear Ec
  have Ec := n_
  clear n_
  have n_ := Aside0.mk (blk_below KR.out hb_)
  clear KR
  have KR := n_
  clear n_
  have n_ := Aside0.mk (ErrV.below Ed.out hb_)
  clear Ed
  have Ed := n_
  clear n_
  have n_ := Aside0.mk (blk_below KS.out hb_)
  clear KS
  have KS := n_
  clear n_
  clear hb_
  have zG0_ : W20.cell? ⟨gl, 0, none⟩ = some (.int .i64 g.f0) := (blk_cell KG.out 0).trans rfl
  have zG1_ : W20.cell? ⟨gl, 1, none⟩ = some (.slice G1 g.f1.length g1_) := (blk_cell KG.out 1).trans rfl
  have zG2_ : W20.cell? ⟨gl, 2, none⟩ = some (.slice G2 g.f2.length g2_) := (blk_cell KG.out 2).trans rfl
  have zG3_ : W20.cell? ⟨gl, 3, none⟩ = some (.slice G3 g.f3.length g3_) := (blk_cell KG.out 3).trans rfl
  have zX0_ : W20.cell? ⟨gx, 0, none⟩ = some (.int .i64 g.f0) := (blk_cell KX.out 0).trans rfl
  have zX1_ : W20.cell? ⟨gx, 1, none⟩ = some (.slice X1 g.f1.length x1_) := (blk_cell KX.out 1).trans rfl
  have zX2_ : W20.cell? ⟨gx, 2, none⟩ = some (.slice X2 g.f2.length x2_) := (blk_cell KX.out 2).trans rfl
  have zX3_ : W20.cell? ⟨gx, 3, none⟩ = some (.slice X3 g.f3.length x3_) := (blk_cell KX.out 3).trans rfl
  have zY0_ : W20.cell? ⟨gy, 0, none⟩ = some (.int .i64 g.f0) := (blk_cell KY.out 0).trans rfl
  have zY1_ : W20.cell? ⟨gy, 1, none⟩ = some (.slice Y1 g.f1.length y1_) := (blk_cell KY.out 1).trans rfl
  have zY2_ : W20.cell? ⟨gy, 2, none⟩ = some (.slice Y2 g.f2.length y2_) := (blk_cell KY.out 2).trans rfl
  have zY3_ : W20.cell? ⟨gy, 3, none⟩ = some (.slice Y3 g.f3.length y3_) := (blk_cell KY.out 3).trans rfl
  have zP0_ : W20.cell? ⟨gpa, 0, none⟩ = some (.int .i64 0) := (blk_cell KP.out 0).trans rfl
  have zP1_ : W20.cell? ⟨gpa, 1, none⟩ = some (.slice none 0 0) := (blk_cell KP.out 1).trans rfl
  have zP2_ : W20.cell? ⟨gpa, 2, none⟩ = some (.slice none 0 0) := (blk_cell KP.out 2).trans rfl
  have zP3_ : W20.cell? ⟨gpa, 3, none⟩ = some (.slice none 0 0) := (blk_cell KP.out 3).trans rfl
  have zQ0_ : W20.cell? ⟨gq, 0, none⟩ = some (.int .i64 0) := (blk_cell KQ.out 0).trans rfl
  have zQ1_ : W20.cell? ⟨gq, 1, none⟩ = some (.slice none 0 0) := (blk_cell KQ.out 1).trans rfl
  have zQ2_ : W20.cell? ⟨gq, 2, none⟩ = some (.slice none 0 0) := (blk_cell KQ.out 2).trans rfl
  have zQ3_ : W20.cell? ⟨gq, 3, none⟩ = some (.slice none 0 0) := (blk_cell KQ.out 3).trans rfl
  have zR0_ : W20.cell? ⟨gr, 0, none⟩ = some (.int .i64 0) := (blk_cell KR.out 0).trans rfl
  have zR1_ : W20.cell? ⟨gr, 1, none⟩ = some (.slice none 0 0) := (blk_cell KR.out 1).trans rfl
  have zR2_ : W20.cell? ⟨gr, 2, none⟩ = some (.slice none 0 0) := (blk_cell KR.out 2).trans rfl
  have zR3_ : W20.cell? ⟨gr, 3, none⟩ = some (.slice none 0 0) := (blk_cell KR.out 3).trans rfl
  have zS0_ : W20.cell? ⟨gs, 0, none⟩ = some (.int .i64 0) := (blk_cell KS.out 0).trans rfl
  have zS1_ : W20.cell? ⟨gs, 1, none⟩ = some (.slice none 0 0) := (blk_cell KS.out 1).trans rfl
  have zS2_ : W20.cell? ⟨gs, 2, none⟩ = some (.slice none 0 0) := (blk_cell KS.out 2).trans rfl
  have zS3_ : W20.cell? ⟨gs, 3, none⟩ = some (.slice none 0 0) := (blk_cell KS.out 3).trans rfl
  go_wp2_with fail
  clear zG0_ zG1_ zG2_ zG3_ zX0_ zX1_ zX2_ zX3_ zY0_ zY1_ zY2_ zY3_ zP0_ zP1_ zP2_ zP3_ zQ0_ zQ1_ zQ2_ zQ3_ zR0_ zR1_ zR2_ zR3_ zS0_ zS1_ zS2_ zS3_
  refine (told_yes _ (some ((b.length : Int) - 1, 192)) _ W20 HH.out Ea.out (fun _ => ⟨code_ne (by decide), rfl⟩)).mono ?_
  rintro e W21 ⟨rfl, hb_⟩
  have n_ := Aside0.mk (below_step HB.out hb_)
  clear HB
  have HB := n_
  clear n_
  have n_ := Aside0.mk (Handle_below HH.out hb_)
  clear HH
  have HH := n_
  clear n_
  have n_ := Aside0.mk (Kd.C_below HC.out hb_)
  clear HC
  have HC := n_
  clear n_
  have n_ := Aside0.mk (IG.out.below hb_)
  clear IG
  have IG := n_
  clear n_
  have n_ := Aside0.mk (blk_below KG.out hb_)
  clear KG
  have KG := n_
  clear n_
  have n_ := Aside0.mk (And.intro RB.out.1 (Kd.C_below RB.out.2 hb_))
  clear RB
  have RB := n_
  clear n_
  have n_ := Aside0.mk (IX.out.below hb_)
  clear IX
  have IX := n_
  clear n_
  have n_ := Aside0.mk (blk_below KX.out hb_)
  clear KX
  have KX := n_
  clear n_
  have n_ := Aside0.mk (IY.out.below hb_)
  clear IY
  have IY := n_
  clear n_
  have n_ := Aside0.mk (blk_below KY.out hb_)
  clear KY
  have KY := n_
  clear n_
  have n_ := Aside0.mk (ErrV.below Ea.out hb_)
  clear Ea
  have Ea := n_
  clear n_
  have n_ := Aside0.mk (blk_below KP.out hb_)
  clear KP
  have KP := n_
  clear n_
  have n_ := Aside0.mk (ErrV.below Eb.out hb_)
  clear Eb
  have Eb := n_
  clear n_
  have n_ := Aside0.mk (blk_below KQ.out hb_)
  clear KQ
  have KQ := n_
  clear n_
  have n_ := Aside0.mk (ErrV.below Ec.out hb_)
  clear Ec
  have Ec := n_
  clear n_
  have n_ := Aside0.mk (blk_below KR.out hb_)
  clear KR
  have KR := n_
  clear n_
  have n_ := Aside0.mk (ErrV.below Ed.out hb_)
  clear Ed
  have Ed := n_
  clear n_
  have n_ := Aside0.mk (blk_below KS.out hb_)
  clear KS
  have KS := n_
  clear n_
  clear hb_
  have zG0_ : W21.cell? ⟨gl, 0, none⟩ = some (.int .i64 g.f0) := (blk_cell KG.out 0).trans rfl
  have zG1_ : W21.cell? ⟨gl, 1, none⟩ = some (.slice G1 g.f1.length g1_) := (blk_cell KG.out 1).trans rfl
  have zG2_ : W21.cell? ⟨gl, 2, none⟩ = some (.slice G2 g.f2.length g2_) := (blk_cell KG.out 2).trans rfl
  have zG3_ : W21.cell? ⟨gl, 3, none⟩ = some (.slice G3 g.f3.length g3_) := (blk_cell KG.out 3).trans rfl
  have zX0_ : W21.cell? ⟨gx, 0, none⟩ = some (.int .i64 g.f0) := (blk_cell KX.out 0).trans rfl
  have zX1_ : W21.cell? ⟨gx, 1, none⟩ = some (.slice X1 g.f1.length x1_) := (blk_cell KX.out 1).trans rfl
  have zX2_ : W21.cell? ⟨gx, 2, none⟩ = some (.slice X2 g.f2.length x2_) := (blk_cell KX.out 2).trans rfl
  have zX3_ : W21.cell? ⟨gx, 3, none⟩ = some (.slice X3 g.f3.length x3_) := (blk_cell KX.out 3).trans rfl
  have zY0_ : W21.cell? ⟨gy, 0, none⟩ = some (.int .i64 g.f0) := (blk_cell KY.out 0).trans rfl
  have zY1_ : W21.cell? ⟨gy, 1, none⟩ = some (.slice Y1 g.f1.length y1_) := (blk_cell KY.out 1).trans rfl
  have zY2_ : W21.cell? ⟨gy, 2, none⟩ = some (.slice Y2 g.f2.length y2_) := (blk_cell KY.out 2).trans rfl
  have zY3_ : W21.cell? ⟨gy, 3, none⟩ = some (.slice Y3 g.f3.length y3_) := (blk_cell KY.out 3).trans rfl
  have zP0_ : W21.cell? ⟨gpa, 0, none⟩ = some (.int .i64 0) := (blk_cell KP.out 0).trans rfl
  have zP1_ : W21.cell? ⟨gpa, 1, none⟩ = some (.slice none 0 0) := (blk_cell KP.out 1).trans rfl
  have zP2_ : W21.cell? ⟨gpa, 2, none⟩ = some (.slice none 0 0) := (blk_cell KP.out 2).trans rfl
  have zP3_ : W21.cell? ⟨gpa, 3, none⟩ = some (.slice none 0 0) := (blk_cell KP.out 3).trans rfl
  have zQ0_ : W21.cell? ⟨gq, 0, none⟩ = some (.int .i64 0) := (blk_cell KQ.out 0).trans rfl
  have zQ1_ : W21.cell? ⟨gq, 1, none⟩ = some (.slice none 0 0) := (blk_cell KQ.out 1).trans rfl
  have zQ2_ : W21.cell? ⟨gq, 2, none⟩ = some (.slice none 0 0) := (blk_cell KQ.out 2).trans rfl
  have zQ3_ : W21.cell? ⟨gq, 3, none⟩ = some (.slice none 0 0) := (blk_cell KQ.out 3).trans rfl
  have zR0_ : W21.cell? ⟨gr, 0, none⟩ = some (.int .i64 0) := (blk_cell KR.out 0).trans rfl
  have zR1_ : W21.cell? ⟨gr, 1, none⟩ = some (.slice none 0 0) := (blk_cell KR.out 1).trans rfl
  have zR2_ : W21.cell? ⟨gr, 2, none⟩ = some (.slice none 0 0) := (blk_cell KR.out 2).trans rfl
  have zR3_ : W21.cell? ⟨gr, 3, none⟩ = some (.slice none 0 0) := (blk_cell KR.out 3).trans rfl
  have zS0_ : W21.cell? ⟨gs, 0, none⟩ = some (.int .i64 0) := (blk_cell KS.out 0).trans rfl
  have zS1_ : W21.cell? ⟨gs, 1, none⟩ = some (.slice none 0 0) := (blk_cell KS.out 1).trans rfl
  have zS2_ : W21.cell? ⟨gs, 2, none⟩ = some (.slice none 0 0) := (blk_cell KS.out 2).trans rfl
  have zS3_ : W21.cell? ⟨gs, 3, none⟩ = some (.slice none 0 0) := (blk_cell KS.out 3).trans rfl
  go_wp2_with fail
  clear zG0_ zG1_ zG2_ zG3_ zX0_ zX1_ zX2_ zX3_ zY0_ zY1_ zY2_ zY3_ zP0_ zP1_ zP2_ zP3_ zQ0_ zQ1_ zQ2_ zQ3_ zR0_ zR1_ zR2_ zR3_ zS0_ zS1_ zS2_ zS3_
  refine (told_yes _ (some (0, 192)) _ W21 HH.out Ec.out (fun _ => ⟨code_ne (by decide), rfl⟩)).mono ?_
  rintro e W22 ⟨rfl, hb_⟩
  have n_ := Aside0.mk (below_step HB.out hb_)
  clear HB
  have HB := n_
  clear n_
  have n_ := Aside0.mk (Handle_below HH.out hb_)
  clear HH
  have HH := n_
  clear n_
  have n_ := Aside0.mk (Kd.C_below HC.out hb_)
  clear HC
  have HC := n_
  clear n_
  have n_ := Aside0.mk (IG.out.below hb_)
  clear IG
  have IG := n_
  clear n_
  have n_ := Aside0.mk (blk_below KG.out hb_)
  clear KG
  have KG := n_
  clear n_
  have n_ := Aside0.mk (And.intro RB.out.1 (Kd.C_below RB.out.2 hb_))
  clear RB
  have RB := n_
  clear n_
  have n_ := Aside0.mk (IX.out.below hb_)
  clear IX
  have IX := n_
  clear n_
  have n_ := Aside0.mk (blk_below KX.out hb_)
  clear KX
  have KX := n_
  clear n_
  have n_ := Aside0.mk (IY.out.below hb_)
  clear IY
  have IY := n_
  clear n_
  have n_ := Aside0.mk (blk_below KY.out hb_)
  clear KY
  have KY := n_
  clear n_
  have n_ := Aside0.mk (ErrV.below Ea.out hb_)
  clear Ea
  have Ea := n_
  clear n_
  have n_ := Aside0.mk (blk_below KP.out hb_)
  clear KP
  have KP := n_
  clear n_
  have n_ := Aside0.mk (ErrV.below Eb.out hb_)
  clear Eb
  have Eb := n_
  clear n_
  have n_ := Aside0.mk (blk_below KQ.out hb_)
  clear KQ
  have KQ := n_
  clear n_
  have n_ := Aside0.mk (ErrV.below Ec.out hb_)
  clear Ec
  have Ec := n_
  clear n_
  have n_ := Aside0.mk (blk_below KR.out hb_)
  clear KR
  have KR := n_
  clear n_
  have n_ := Aside0.mk (ErrV.below Ed.out hb_)
  clear Ed
  have Ed := n_
  clear n_
  have n_ := Aside0.mk (blk_below KS.out hb_)
  clear KS
  have KS := n_
  clear n_
  clear hb_
  have zG0_ : W22.cell? ⟨gl, 0, none⟩ = some (.int .i64 g.f0) := (blk_cell KG.out 0).trans rfl
  have zG1_ : W22.cell? ⟨gl, 1, none⟩ = some (.slice G1 g.f1.length g1_) := (blk_cell KG.out 1).trans rfl
  have zG2_ : W22.cell? ⟨gl, 2, none⟩ = some (.slice G2 g.f2.length g2_) := (blk_cell KG.out 2).trans rfl
  have zG3_ : W22.cell? ⟨gl, 3, none⟩ = some (.slice G3 g.f3.length g3_) := (blk_cell KG.out 3).trans rfl
  have zX0_ : W22.cell? ⟨gx, 0, none⟩ = some (.int .i64 g.f0) := (blk_cell KX.out 0).trans rfl
  have zX1_ : W22.cell? ⟨gx, 1, none⟩ = some (.slice X1 g.f1.length x1_) := (blk_cell KX.out 1).trans rfl
  have zX2_ : W22.cell? ⟨gx, 2, none⟩ = some (.slice X2 g.f2.length x2_) := (blk_cell KX.out 2).trans rfl
  have zX3_ : W22.cell? ⟨gx, 3, none⟩ = some (.slice X3 g.f3.length x3_) := (blk_cell KX.out 3).trans rfl
  have zY0_ : W22.cell? ⟨gy, 0, none⟩ = some (.int .i64 g.f0) := (blk_cell KY.out 0).trans rfl
  have zY1_ : W22.cell? ⟨gy, 1, none⟩ = some (.slice Y1 g.f1.length y1_) := (blk_cell KY.out 1).trans rfl
  have zY2_ : W22.cell? ⟨gy, 2, none⟩ = some (.slice Y2 g.f2.length y2_) := (blk_cell KY.out 2).trans rfl
  have zY3_ : W22.cell? ⟨gy, 3, none⟩ = some (.slice Y3 g.f3.length y3_) := (blk_cell KY.out 3).trans rfl
  have zP0_ : W22.cell? ⟨gpa, 0, none⟩ = some (.int .i64 0) := (blk_cell KP.out 0).trans rfl
  have zP1_ : W22.cell? ⟨gpa, 1, none⟩ = some (.slice none 0 0) := (blk_cell KP.out 1).trans rfl
  have zP2_ : W22.cell? ⟨gpa, 2, none⟩ = some (.slice none 0 0) := (blk_cell KP.out 2).trans rfl
  have zP3_ : W22.cell? ⟨gpa, 3, none⟩ = some (.slice none 0 0) := (blk_cell KP.out 3).trans rfl
  have zQ0_ : W22.cell? ⟨gq, 0, none⟩ = some (.int .i64 0) := (blk_cell KQ.out 0).trans rfl
  have zQ1_ : W22.cell? ⟨gq, 1, none⟩ = some (.slice none 0 0) := (blk_cell KQ.out 1).trans rfl
  have zQ2_ : W22.cell? ⟨gq, 2, none⟩ = some (.slice none 0 0) := (blk_cell KQ.out 2).trans rfl
  have zQ3_ : W22.cell? ⟨gq, 3, none⟩ = some (.slice none 0 0) := (blk_cell KQ.out 3).trans rfl
  have zR0_ : W22.cell? ⟨gr, 0, none⟩ = some (.int .i64 0) := (blk_cell KR.out 0).trans rfl
  have zR1_ : W22.cell? ⟨gr, 1, none⟩ = some (.slice none 0 0) := (blk_cell KR.out 1).trans rfl
  have zR2_ : W22.cell? ⟨gr, 2, none⟩ = some (.slice none 0 0) := (blk_cell KR.out 2).trans rfl
  have zR3_ : W22.cell? ⟨gr, 3, none⟩ = some (.slice none 0 0) := (blk_cell KR.out 3).trans rfl
  have zS0_ : W22.cell? ⟨gs, 0, none⟩ = some (.int .i64 0) := (blk_cell KS.out 0).trans rfl
  have zS1_ : W22.cell? ⟨gs, 1, none⟩ = some (.slice none 0 0) := (blk_cell KS.out 1).trans rfl
  have zS2_ : W22.cell? ⟨gs, 2, none⟩ = some (.slice none 0 0) := (blk_cell KS.out 2).trans rfl
  have zS3_ : W22.cell? ⟨gs, 3, none⟩ = some (.slice none 0 0) := (blk_cell KS.out 3).trans rfl
  go_wp2_with fail
  clear zG0_ zG1_ zG2_ zG3_ zX0_ zX1_ zX2_ zX3_ zY0_ zY1_ zY2_ zY3_ zP0_ zP1_ zP2_ zP3_ zQ0_ zQ1_ zQ2_ zQ3_ zR0_ zR1_ zR2_ zR3_ zS0_ zS1_ zS2_ zS3_
  refine (told_yes _ (some (0, 191)) _ W22 HH.out Ed.out (fun _ => ⟨code_ne (by decide), rfl⟩)).mono ?_
  rintro e W23 ⟨rfl, hb_⟩
  have n_ := Aside0.mk (below_step HB.out hb_)
  clear HB
  have HB := n_
  clear n_
  have n_ := Aside0.mk (Handle_below HH.out hb_)
  clear HH
  have HH := n_
  clear n_
  have n_ := Aside0.mk (Kd.C_below HC.out hb_)
  clear HC
  have HC := n_
  clear n_
  have n_ := Aside0.mk (IG.out.below hb_)
  clear IG
  have IG := n_
  clear n_
  have n_ := Aside0.mk (blk_below KG.out hb_)
  clear KG
  have KG := n_
  clear n_
  have n_ := Aside0.mk (And.intro RB.out.1 (Kd.C_below RB.out.2 hb_))
  clear RB
  have RB := n_
  clear n_
  have n_ := Aside0.mk (IX.out.below hb_)
  clear IX
  have IX := n_
  clear n_
  have n_ := Aside0.mk (blk_below KX.out hb_)
  clear KX
  have KX := n_
  clear n_
  have n_ := Aside0.mk (IY.out.below hb_)
  clear IY
  have IY := n_
  clear n_
  have n_ := Aside0.mk (blk_below KY.out hb_)
  clear KY
  have KY := n_
  clear n_
  have n_ := Aside0.mk (ErrV.below Ea.out hb_)
  clear Ea
  have Ea := n_
  clear n_
  have n_ := Aside0.mk (blk_below KP.out hb_)
  clear KP
  have KP := n_
  clear n_
  have n_ := Aside0.mk (ErrV.below Eb.out hb_)
  clear Eb
  have Eb := n_
  clear n_
  have n_ := Aside0.mk (blk_below KQ.out hb_)
  clear KQ
  have KQ := n_
  clear n_
  have n_ := Aside0.mk (ErrV.below Ec.out hb_)
  clear Ec
  have Ec := n_
  clear n_
  have n_ := Aside0.mk (blk_below KR.out hb_)
  clear KR
  have KR := n_
  clear n_
  have n_ := Aside0.mk (ErrV.below Ed.out hb_)
  clear Ed
  have Ed := n_
  clear n_
  have n_ := Aside0.mk (blk_below KS.out hb_)
  clear KS
  have KS := n_
  clear n_
  clear hb_
  have zG0_ : W23.cell? ⟨gl, 0, none⟩ = some (.int .i64 g.f0) := (blk_cell KG.out 0).trans rfl
  have zG1_ : W23.cell? ⟨gl, 1, none⟩ = some (.slice G1 g.f1.length g1_) := (blk_cell KG.out 1).trans rfl
  have zG2_ : W23.cell? ⟨gl, 2, none⟩ = some (.slice G2 g.f2.length g2_) := (blk_cell KG.out 2).trans rfl
  have zG3_ : W23.cell? ⟨gl, 3, none⟩ = some (.slice G3 g.f3.length g3_) := (blk_cell KG.out 3).trans rfl
  have zX0_ : W23.cell? ⟨gx, 0, none⟩ = some (.int .i64 g.f0) := (blk_cell KX.out 0).trans rfl
  have zX1_ : W23.cell? ⟨gx, 1, none⟩ = some (.slice X1 g.f1.length x1_) := (blk_cell KX.out 1).trans rfl
  have zX2_ : W23.cell? ⟨gx, 2, none⟩ = some (.slice X2 g.f2.length x2_) := (blk_cell KX.out 2).trans rfl
  have zX3_ : W23.cell? ⟨gx, 3, none⟩ = some (.slice X3 g.f3.length x3_) := (blk_cell KX.out 3).trans rfl
  have zY0_ : W23.cell? ⟨gy, 0, none⟩ = some (.int .i64 g.f0) := (blk_cell KY.out 0).trans rfl
  have zY1_ : W23.cell? ⟨gy, 1, none⟩ = some (.slice Y1 g.f1.length y1_) := (blk_cell KY.out 1).trans rfl
  have zY2_ : W23.cell? ⟨gy, 2, none⟩ = some (.slice Y2 g.f2.length y2_) := (blk_cell KY.out 2).trans rfl
  have zY3_ : W23.cell? ⟨gy, 3, none⟩ = some (.slice Y3 g.f3.length y3_) := (blk_cell KY.out 3).trans rfl
  have zP0_ : W23.cell? ⟨gpa, 0, none⟩ = some (.int .i64 0) := (blk_cell KP.out 0).trans rfl
  have zP1_ : W23.cell? ⟨gpa, 1, none⟩ = some (.slice none 0 0) := (blk_cell KP.out 1).trans rfl
  have zP2_ : W23.cell? ⟨gpa, 2, none⟩ = some (.slice none 0 0) := (blk_cell KP.out 2).trans rfl
  have zP3_ : W23.cell? ⟨gpa, 3, none⟩ = some (.slice none 0 0) := (blk_cell KP.out 3).trans rfl
  have zQ0_ : W23.cell? ⟨gq, 0, none⟩ = some (.int .i64 0) := (blk_cell KQ.out 0).trans rfl
  have zQ1_ : W23.cell? ⟨gq, 1, none⟩ = some (.slice none 0 0) := (blk_cell KQ.out 1).trans rfl
  have zQ2_ : W23.cell? ⟨gq, 2, none⟩ = some (.slice none 0 0) := (blk_cell KQ.out 2).trans rfl
  have zQ3_ : W23.cell? ⟨gq, 3, none⟩ = some (.slice none 0 0) := (blk_cell KQ.out 3).trans rfl
  have zR0_ : W23.cell? ⟨gr, 0, none⟩ = some (.int .i64 0) := (blk_cell KR.out 0).trans rfl
  have zR1_ : W23.cell? ⟨gr, 1, none⟩ = some (.slice none 0 0) := (blk_cell KR.out 1).trans rfl
  have zR2_ : W23.cell? ⟨gr, 2, none⟩ = some (.slice none 0 0) := (blk_cell KR.out 2).trans rfl
  have zR3_ : W23.cell? ⟨gr, 3, none⟩ = some (.slice none 0 0) := (blk_cell KR.out 3).trans rfl
  have zS0_ : W23.cell? ⟨gs, 0, none⟩ = some (.int .i64 0) := (blk_cell KS.out 0).trans rfl
  have zS1_ : W23.cell? ⟨gs, 1, none⟩ = some (.slice none 0 0) := (blk_cell KS.out 1).trans rfl
  have zS2_ : W23.cell? ⟨gs, 2, none⟩ = some (.slice none 0 0) := (blk_cell KS.out 2).trans rfl
  have zS3_ : W23.cell? ⟨gs, 3, none⟩ = some (.slice none 0 0) := (blk_cell KS.out 3).trans rfl
  go_wp2_with fail
  clear zG0_ zG1_ zG2_ zG3_ zX0_ zX1_ zX2_ zX3_ zY0_ zY1_ zY2_ zY3_ zP0_ zP1_ zP2_ zP3_ zQ0_ zQ1_ zQ2_ zQ3_ zR0_ zR1_ zR2_ zR3_ zS0_ zS1_ zS2_ zS3_
  refine (zero_no W23).mono ?_
  rintro e W24 ⟨rfl, hb_⟩
  have n_ := Aside0.mk (below_step HB.out hb_)
  clear HB
  have HB := n_
  clear n_
  have n_ := Aside0.mk (Handle_below HH.out hb_)
  clear HH
  have HH := n_
  clear n_
  have n_ := Aside0.mk (Kd.C_below HC.out hb_)
  clear HC
  have HC := n_
  clear n_
  have n_ := Aside0.mk (IG.out.below hb_)
  clear IG
  have IG := n_
  clear n_
  have n_ := Aside0.mk (blk_below KG.out hb_)
  clear KG
  have KG := n_
  clear n_
  have n_ := Aside0.mk (And.intro RB.out.1 (Kd.C_below RB.out.2 hb_))
  clear RB
  have RB := n_
  clear n_
  have n_ := Aside0.mk (IX.out.below hb_)
  clear IX
  have IX := n_
  clear n_
  have n_ := Aside0.mk (blk_below KX.out hb_)
  clear KX
  have KX := n_
  clear n_
  have n_ := Aside0.mk (IY.out.below hb_)
  clear IY
  have IY := n_
  clear n_
  have n_ := Aside0.mk (blk_below KY.out hb_)
  clear KY
  have KY := n_
  clear n_
  have n_ := Aside0.mk (ErrV.below Ea.out hb_)
  clear Ea
  have Ea := n_
  clear n_
  have n_ := Aside0.mk (blk_below KP.out hb_)
  clear KP
  have KP := n_
  clear n_
  have n_ := Aside0.mk (ErrV.below Eb.out hb_)
  clear Eb
  have Eb := n_
  clear n_
  have n_ := Aside0.mk (blk_below KQ.out hb_)
  clear KQ
  have KQ := n_
  clear n_
  have n_ := Aside0.mk (ErrV.below Ec.out hb_)
  clear Ec
  have Ec := n_
  clear n_
  have n_ := Aside0.mk (blk_below KR.out hb_)
  clear KR
  have KR := n_
  clear n_
  have n_ := Aside0.mk (ErrV.below Ed.out hb_)
  clear Ed
  have Ed := n_
  clear n_
  have n_ := Aside0.mk (blk_below KS.out hb_)
  clear KS
  have KS := n_
  clear n_
  clear hb_
  have zG0_ : W24.cell? ⟨gl, 0, none⟩ = some (.int .i64 g.f0) := (blk_cell KG.out 0).trans rfl
  have zG1_ : W24.cell? ⟨gl, 1, none⟩ = some (.slice G1 g.f1.length g1_) := (blk_cell KG.out 1).trans rfl
  have zG2_ : W24.cell? ⟨gl, 2, none⟩ = some (.slice G2 g.f2.length g2_) := (blk_cell KG.out 2).trans rfl
  have zG3_ : W24.cell? ⟨gl, 3, none⟩ = some (.slice G3 g.f3.length g3_) := (blk_cell KG.out 3).trans rfl
  have zX0_ : W24.cell? ⟨gx, 0, none⟩ = some (.int .i64 g.f0) := (blk_cell KX.out 0).trans rfl
  have zX1_ : W24.cell? ⟨gx, 1, none⟩ = some (.slice X1 g.f1.length x1_) := (blk_cell KX.out 1).trans rfl
  have zX2_ : W24.cell? ⟨gx, 2, none⟩ = some (.slice X2 g.f2.length x2_) := (blk_cell KX.out 2).trans rfl
  have zX3_ : W24.cell? ⟨gx, 3, none⟩ = some (.slice X3 g.f3.length x3_) := (blk_cell KX.out 3).trans rfl
  have zY0_ : W24.cell? ⟨gy, 0, none⟩ = some (.int .i64 g.f0) := (blk_cell KY.out 0).trans rfl
  have zY1_ : W24.cell? ⟨gy, 1, none⟩ = some (.slice Y1 g.f1.length y1_) := (blk_cell KY.out 1).trans rfl
  have zY2_ : W24.cell? ⟨gy, 2, none⟩ = some (.slice Y2 g.f2.length y2_) := (blk_cell KY.out 2).trans rfl
  have zY3_ : W24.cell? ⟨gy, 3, none⟩ = some (.slice Y3 g.f3.length y3_) := (blk_cell KY.out 3).trans rfl
  have zP0_ : W24.cell? ⟨gpa, 0, none⟩ = some (.int .i64 0) := (blk_cell KP.out 0).trans rfl
  have zP1_ : W24.cell? ⟨gpa, 1, none⟩ = some (.slice none 0 0) := (blk_cell KP.out 1).trans rfl
  have zP2_ : W24.cell? ⟨gpa, 2, none⟩ = some (.slice none 0 0) := (blk_cell KP.out 2).trans rfl
  have zP3_ : W24.cell? ⟨gpa, 3, none⟩ = some (.slice none 0 0) := (blk_cell KP.out 3).trans rfl
  have zQ0_ : W24.cell? ⟨gq, 0, none⟩ = some (.int .i64 0) := (blk_cell KQ.out 0).trans rfl
  have zQ1_ : W24.cell? ⟨gq, 1, none⟩ = some (.slice none 0 0) := (blk_cell KQ.out 1).trans rfl
  have zQ2_ : W24.cell? ⟨gq, 2, none⟩ = some (.slice none 0 0) := (blk_cell KQ.out 2).trans rfl
  have zQ3_ : W24.cell? ⟨gq, 3, none⟩ = some (.slice none 0 0) := (blk_cell KQ.out 3).trans rfl
  have zR0_ : W24.cell? ⟨gr, 0, none⟩ = some (.int .i64 0) := (blk_cell KR.out 0).trans rfl
  have zR1_ : W24.cell? ⟨gr, 1, none⟩ = some (.slice none 0 0) := (blk_cell KR.out 1).trans rfl
  have zR2_ : W24.cell? ⟨gr, 2, none⟩ = some (.slice none 0 0) := (blk_cell KR.out 2).trans rfl
  have zR3_ : W24.cell? ⟨gr, 3, none⟩ = some (.slice none 0 0) := (blk_cell KR.out 3).trans rfl
  have zS0_ : W24.cell? ⟨gs, 0, none⟩ = some (.int .i64 0) := (blk_cell KS.out 0).trans rfl
  have zS1_ : W24.cell? ⟨gs, 1, none⟩ = some (.slice none 0 0) := (blk_cell KS.out 1).trans rfl
  have zS2_ : W24.cell? ⟨gs, 2, none⟩ = some (.slice none 0 0) := (blk_cell KS.out 2).trans rfl
  have zS3_ : W24.cell? ⟨gs, 3, none⟩ = some (.slice none 0 0) := (blk_cell KS.out 3).trans rfl
  go_wp2_with fail
  clear zG0_ zG1_ zG2_ zG3_ zX0_ zX1_ zX2_ zX3_ zY0_ zY1_ zY2_ zY3_ zP0_ zP1_ zP2_ zP3_ zQ0_ zQ1_ zQ2_ zQ3_ zR0_ zR1_ zR2_ zR3_ zS0_ zS1_ zS2_ zS3_
  refine (Code_calls _ (some (q, 191)) W24 HH.out Eb.out).mono ?_
  rintro e W25 ⟨rfl, hb_⟩
  rw [show codeOf (some (q, 191)) = 191 from rfl]
  have n_ := Aside0.mk (below_step HB.out hb_)
  clear HB
  have HB := n_
  clear n_
  have n_ := Aside0.mk (Handle_below HH.out hb_)
  clear HH
  have HH := n_
  clear n_
  have n_ := Aside0.mk (Kd.C_below HC.out hb_)
  clear HC
  have HC := n_
  clear n_
  have n_ := Aside0.mk (IG.out.below hb_)
  clear IG
  have IG := n_
  clear n_
  have n_ := Aside0.mk (blk_below KG.out hb_)
  clear KG
  have KG := n_
  clear n_
  have n_ := Aside0.mk (And.intro RB.out.1 (Kd.C_below RB.out.2 hb_))
  clear RB
  have RB := n_
  clear n_
  have n_ := Aside0.mk (IX.out.below hb_)
  clear IX
  have IX := n_
  clear n_
  have n_ := Aside0.mk (blk_below KX.out hb_)
  clear KX
  have KX := n_
  clear n_
  have n_ := Aside0.mk (IY.out.below hb_)
  clear IY
  have IY := n_
  clear n_
  have n_ := Aside0.mk (blk_below KY.out hb_)
  clear KY
  have KY := n_
  clear n_
  have n_ := Aside0.mk (ErrV.below Ea.out hb_)
  clear Ea
  have Ea := n_
  clear n_
  have n_ := Aside0.mk (blk_below KP.out hb_)
  clear KP
  have KP := n_
  clear n_
  have n_ := Aside0.mk (ErrV.below Eb.out hb_)
  clear Eb
  have Eb := n_
  clear n_
  have n_ := Aside0.mk (blk_below KQ.out hb_)
  clear KQ
  have KQ := n_
  clear n_
  have n_ := Aside0.mk (ErrV.below Ec.out hb_)
  clear Ec
  have Ec := n_
  clear n_
  have n_ := Aside0.mk (blk_below KR.out hb_)
  clear KR
  have KR := n_
  clear n_
  have n_ := Aside0.mk (ErrV.below Ed.out hb_)
  clear Ed
  have Ed := n_
  clear n_
  have n_ := Aside0.mk (blk_below KS.out hb_)
  clear KS
  have KS := n_
  clear n_
  clear hb_
  have zG0_ : W25.cell? ⟨gl, 0, none⟩ = some (.int .i64 g.f0) := (blk_cell KG.out 0).trans rfl
  have zG1_ : W25.cell? ⟨gl, 1, none⟩ = some (.slice G1 g.f1.length g1_) := (blk_cell KG.out 1).trans rfl
  have zG2_ : W25.cell? ⟨gl, 2, none⟩ = some (.slice G2 g.f2.length g2_) := (blk_cell KG.out 2).trans rfl
  have zG3_ : W25.cell? ⟨gl, 3, none⟩ = some (.slice G3 g.f3.length g3_) := (blk_cell KG.out 3).trans rfl
  have zX0_ : W25.cell? ⟨gx, 0, none⟩ = some (.int .i64 g.f0) := (blk_cell KX.out 0).trans rfl
  have zX1_ : W25.cell? ⟨gx, 1, none⟩ = some (.slice X1 g.f1.length x1_) := (blk_cell KX.out 1).trans rfl
  have zX2_ : W25.cell? ⟨gx, 2, none⟩ = some (.slice X2 g.f2.length x2_) := (blk_cell KX.out 2).trans rfl
  have zX3_ : W25.cell? ⟨gx, 3, none⟩ = some (.slice X3 g.f3.length x3_) := (blk_cell KX.out 3).trans rfl
  have zY0_ : W25.cell? ⟨gy, 0, none⟩ = some (.int .i64 g.f0) := (blk_cell KY.out 0).trans rfl
  have zY1_ : W25.cell? ⟨gy, 1, none⟩ = some (.slice Y1 g.f1.length y1_) := (blk_cell KY.out 1).trans rfl
  have zY2_ : W25.cell? ⟨gy, 2, none⟩ = some (.slice Y2 g.f2.length y2_) := (blk_cell KY.out 2).trans rfl
  have zY3_ : W25.cell? ⟨gy, 3, none⟩ = some (.slice Y3 g.f3.length y3_) := (blk_cell KY.out 3).trans rfl
  have zP0_ : W25.cell? ⟨gpa, 0, none⟩ = some (.int .i64 0) := (blk_cell KP.out 0).trans rfl
  have zP1_ : W25.cell? ⟨gpa, 1, none⟩ = some (.slice none 0 0) := (blk_cell KP.out 1).trans rfl
  have zP2_ : W25.cell? ⟨gpa, 2, none⟩ = some (.slice none 0 0) := (blk_cell KP.out 2).trans rfl
  have zP3_ : W25.cell? ⟨gpa, 3, none⟩ = some (.slice none 0 0) := (blk_cell KP.out 3).trans rfl
  have zQ0_ : W25.cell? ⟨gq, 0, none⟩ = some (.int .i64 0) := (blk_cell KQ.out 0).trans rfl
  have zQ1_ : W25.cell? ⟨gq, 1, none⟩ = some (.slice none 0 0) := (blk_cell KQ.out 1).trans rfl
  have zQ2_ : W25.cell? ⟨gq, 2, none⟩ = some (.slice none 0 0) := (blk_cell KQ.out 2).trans rfl
  have zQ3_ : W25.cell? ⟨gq, 3, none⟩ = some (.slice none 0 0) := (blk_cell KQ.out 3).trans rfl
  have zR0_ : W25.cell? ⟨gr, 0, none⟩ = some (.int .i64 0) := (blk_cell KR.out 0).trans rfl
  have zR1_ : W25.cell? ⟨gr, 1, none⟩ = some (.slice none 0 0) := (blk_cell KR.out 1).trans rfl
  have zR2_ : W25.cell? ⟨gr, 2, none⟩ = some (.slice none 0 0) := (blk_cell KR.out 2).trans rfl
  have zR3_ : W25.cell? ⟨gr, 3, none⟩ = some (.slice none 0 0) := (blk_cell KR.out 3).trans rfl
  have zS0_ : W25.cell? ⟨gs, 0, none⟩ = some (.int .i64 0) := (blk_cell KS.out 0).trans rfl
  have zS1_ : W25.cell? ⟨gs, 1, none⟩ = some (.slice none 0 0) := (blk_cell KS.out 1).trans rfl
  have zS2_ : W25.cell? ⟨gs, 2, none⟩ = some (.slice none 0 0) := (blk_cell KS.out 2).trans rfl
  have zS3_ : W25.cell? ⟨gs, 3, none⟩ = some (.slice none 0 0) := (blk_cell KS.out 3).trans rfl
  go_wp2_with fail
  clear zG0_ zG1_ zG2_ zG3_ zX0_ zX1_ zX2_ zX3_ zY0_ zY1_ zY2_ zY3_ zP0_ zP1_ zP2_ zP3_ zQ0_ zQ1_ zQ2_ zQ3_ zR0_ zR1_ zR2_ zR3_ zS0_ zS1_ zS2_ zS3_
  refine (Place_calls _ (some (q, 191)) W25 HH.out Eb.out).mono ?_
  rintro e W26 ⟨rfl, hb_⟩
  rw [show placeOf (some (q, 191)) = q from rfl]
  have n_ := Aside0.mk (below_step HB.out hb_)
  clear HB
  have HB := n_
  clear n_
  have n_ := Aside0.mk (Handle_below HH.out hb_)
  clear HH
  have HH := n_
  clear n_
  have n_ := Aside0.mk (Kd.C_below HC.out hb_)
  clear HC
  have HC := n_
  clear n_
  have n_ := Aside0.mk (IG.out.below hb_)
  clear IG
  have IG := n_
  clear n_
  have n_ := Aside0.mk (blk_below KG.out hb_)
  clear KG
  have KG := n_
  clear n_
  have n_ := Aside0.mk (And.intro RB.out.1 (Kd.C_below RB.out.2 hb_))
  clear RB
  have RB := n_
  clear n_
  have n_ := Aside0.mk (IX.out.below hb_)
  clear IX
  have IX := n_
  clear n_
  have n_ := Aside0.mk (blk_below KX.out hb_)
  clear KX
  have KX := n_
  clear n_
  have n_ := Aside0.mk (IY.out.below hb_)
  clear IY
  have IY := n_
  clear n_
  have n_ := Aside0.mk (blk_below KY.out hb_)
  clear KY
  have KY := n_
  clear n_
  have n_ := Aside0.mk (ErrV.below Ea.out hb_)
  clear Ea
  have Ea := n_
  clear n_
  have n_ := Aside0.mk (blk_below KP.out hb_)
  clear KP
  have KP := n_
  clear n_
  have n_ := Aside0.mk (ErrV.below Eb.out hb_)
  clear Eb
  have Eb := n_
  clear n_
  have n_ := Aside0.mk (blk_below KQ.out hb_)
  clear KQ
  have KQ := n_
  clear n_
  have n_ := Aside0.mk (ErrV.below Ec.out hb_)
  clear Ec
  have Ec := n_
  clear n_
  have n_ := Aside0.mk (blk_below KR.out hb_)
  clear KR
  have KR := n_
  clear n_
  have n_ := Aside0.mk (ErrV.below Ed.out hb_)
  clear Ed
  have Ed := n_
  clear n_
  have n_ := Aside0.mk (blk_below KS.out hb_)
  clear KS
  have KS := n_
  clear n_
  clear hb_
  have zG0_ : W26.cell? ⟨gl, 0, none⟩ = some (.int .i64 g.f0) := (blk_cell KG.out 0).trans rfl
  have zG1_ : W26.cell? ⟨gl, 1, none⟩ = some (.slice G1 g.f1.length g1_) := (blk_cell KG.out 1).trans rfl
  have zG2_ : W26.cell? ⟨gl, 2, none⟩ = some (.slice G2 g.f2.length g2_) := (blk_cell KG.out 2).trans rfl
  have zG3_ : W26.cell? ⟨gl, 3, none⟩ = some (.slice G3 g.f3.length g3_) := (blk_cell KG.out 3).trans rfl
  have zX0_ : W26.cell? ⟨gx, 0, none⟩ = some (.int .i64 g.f0) := (blk_cell KX.out 0).trans rfl
  have zX1_ : W26.cell? ⟨gx, 1, none⟩ = some (.slice X1 g.f1.length x1_) := (blk_cell KX.out 1).trans rfl
  have zX2_ : W26.cell? ⟨gx, 2, none⟩ = some (.slice X2 g.f2.length x2_) := (blk_cell KX.out 2).trans rfl
  have zX3_ : W26.cell? ⟨gx, 3, none⟩ = some (.slice X3 g.f3.length x3_) := (blk_cell KX.out 3).trans rfl
  have zY0_ : W26.cell? ⟨gy, 0, none⟩ = some (.int .i64 g.f0) := (blk_cell KY.out 0).trans rfl
  have zY1_ : W26.cell? ⟨gy, 1, none⟩ = some (.slice Y1 g.f1.length y1_) := (blk_cell KY.out 1).trans rfl
  have zY2_ : W26.cell? ⟨gy, 2, none⟩ = some (.slice Y2 g.f2.length y2_) := (blk_cell KY.out 2).trans rfl
  have zY3_ : W26.cell? ⟨gy, 3, none⟩ = some (.slice Y3 g.f3.length y3_) := (blk_cell KY.out 3).trans rfl
  have zP0_ : W26.cell? ⟨gpa, 0, none⟩ = some (.int .i64 0) := (blk_cell KP.out 0).trans rfl
  have zP1_ : W26.cell? ⟨gpa, 1, none⟩ = some (.slice none 0 0) := (blk_cell KP.out 1).trans rfl
  have zP2_ : W26.cell? ⟨gpa, 2, none⟩ = some (.slice none 0 0) := (blk_cell KP.out 2).trans rfl
  have zP3_ : W26.cell? ⟨gpa, 3, none⟩ = some (.slice none 0 0) := (blk_cell KP.out 3).trans rfl
  have zQ0_ : W26.cell? ⟨gq, 0, none⟩ = some (.int .i64 0) := (blk_cell KQ.out 0).trans rfl
  have zQ1_ : W26.cell? ⟨gq, 1, none⟩ = some (.slice none 0 0) := (blk_cell KQ.out 1).trans rfl
  have zQ2_ : W26.cell? ⟨gq, 2, none⟩ = some (.slice none 0 0) := (blk_cell KQ.out 2).trans rfl
  have zQ3_ : W26.cell? ⟨gq, 3, none⟩ = some (.slice none 0 0) := (blk_cell KQ.out 3).trans rfl
  have zR0_ : W26.cell? ⟨gr, 0, none⟩ = some (.int .i64 0) := (blk_cell KR.out 0).trans rfl
  have zR1_ : W26.cell? ⟨gr, 1, none⟩ = some (.slice none 0 0) := (blk_cell KR.out 1).trans rfl
  have zR2_ : W26.cell? ⟨gr, 2, none⟩ = some (.slice none 0 0) := (blk_cell KR.out 2).trans rfl
  have zR3_ : W26.cell? ⟨gr, 3, none⟩ = some (.slice none 0 0) := (blk_cell KR.out 3).trans rfl
  have zS0_ : W26.cell? ⟨gs, 0, none⟩ = some (.int .i64 0) := (blk_cell KS.out 0).trans rfl
  have zS1_ : W26.cell? ⟨gs, 1, none⟩ = some (.slice none 0 0) := (blk_cell KS.out 1).trans rfl
  have zS2_ : W26.cell? ⟨gs, 2, none⟩ = some (.slice none 0 0) := (blk_cell KS.out 2).trans rfl
  have zS3_ : W26.cell? ⟨gs, 3, none⟩ = some (.slice none 0 0) := (blk_cell KS.out 3).trans rfl
  go_wp2_with fail
  clear zG0_ zG1_ zG2_ zG3_ zX0_ zX1_ zX2_ zX3_ zY0_ zY1_ zY2_ zY3_ zP0_ zP1_ zP2_ zP3_ zQ0_ zQ1_ zQ2_ zQ3_ zR0_ zR1_ zR2_ zR3_ zS0_ zS1_ zS2_ zS3_
  refine (Place_calls _ (some (q, 191)) W26 HH.out Eb.out).mono ?_
  rintro e W27 ⟨rfl, hb_⟩
  rw [show placeOf (some (q, 191)) = q from rfl]
  have n_ := Aside0.mk (below_step HB.out hb_)
  clear HB
  have HB := n_
  clear n_
  have n_ := Aside0.mk (Handle_below HH.out hb_)
  clear HH
  have HH := n_
  clear n_
  have n_ := Aside0.mk (Kd.C_below HC.out hb_)
  clear HC
  have HC := n_
  clear n_
  have n_ := Aside0.mk (IG.out.below hb_)
  clear IG
  have IG := n_
  clear n_
  have n_ := Aside0.mk (blk_below KG.out hb_)
  clear KG
  have KG := n_
  clear n_
  have n_ := Aside0.mk (And.intro RB.out.1 (Kd.C_below RB.out.2 hb_))
  clear RB
  have RB := n_
  clear n_
  have n_ := Aside0.mk (IX.out.below hb_)
  clear IX
  have IX := n_
  clear n_
  have n_ := Aside0.mk (blk_below KX.out hb_)
  clear KX
  have KX := n_
  clear n_
  have n_ := Aside0.mk (IY.out.below hb_)
  clear IY
  have IY := n_
  clear n_
  have n_ := Aside0.mk (blk_below KY.out hb_)
  clear KY
  have KY := n_
  clear n_
  have n_ := Aside0.mk (ErrV.below Ea.out hb_)
  clear Ea
  have Ea := n_
  clear n_
  have n_ := Aside0.mk (blk_below KP.out hb_)
  clear KP
  have KP := n_
  clear n_
  have n_ := Aside0.mk (ErrV.below Eb.out hb_)
  clear Eb
  have Eb := n_
  clear n_
  have n_ := Aside0.mk (blk_below KQ.out hb_)
  clear KQ
  have KQ := n_
  clear n_
  have n_ := Aside0.mk (ErrV.below Ec.out hb_)
  clear Ec
  have Ec := n_
  clear n_
  have n_ := Aside0.mk (blk_below KR.out hb_)
  clear KR
  have KR := n_
  clear n_
  have n_ := Aside0.mk (ErrV.below Ed.out hb_)
  clear Ed
  have Ed := n_
  clear n_
  have n_ := Aside0.mk (blk_below KS.out hb_)
  clear KS
  have KS := n_
  clear n_
  clear hb_
  have zG0_ : W27.cell? ⟨gl, 0, none⟩ = some (.int .i64 g.f0) := (blk_cell KG.out 0).trans rfl
  have zG1_ : W27.cell? ⟨gl, 1, none⟩ = some (.slice G1 g.f1.length g1_) := (blk_cell KG.out 1).trans rfl
  have zG2_ : W27.cell? ⟨gl, 2, none⟩ = some (.slice G2 g.f2.length g2_) := (blk_cell KG.out 2).trans rfl
  have zG3_ : W27.cell? ⟨gl, 3, none⟩ = some (.slice G3 g.f3.length g3_) := (blk_cell KG.out 3).trans rfl
  have zX0_ : W27.cell? ⟨gx, 0, none⟩ = some (.int .i64 g.f0) := (blk_cell KX.out 0).trans rfl
  have zX1_ : W27.cell? ⟨gx, 1, none⟩ = some (.slice X1 g.f1.length x1_) := (blk_cell KX.out 1).trans rfl
  have zX2_ : W27.cell? ⟨gx, 2, none⟩ = some (.slice X2 g.f2.length x2_) := (blk_cell KX.out 2).trans rfl
  have zX3_ : W27.cell? ⟨gx, 3, none⟩ = some (.slice X3 g.f3.length x3_) := (blk_cell KX.out 3).trans rfl
  have zY0_ : W27.cell? ⟨gy, 0, none⟩ = some (.int .i64 g.f0) := (blk_cell KY.out 0).trans rfl
  have zY1_ : W27.cell? ⟨gy, 1, none⟩ = some (.slice Y1 g.f1.length y1_) := (blk_cell KY.out 1).trans rfl
  have zY2_ : W27.cell? ⟨gy, 2, none⟩ = some (.slice Y2 g.f2.length y2_) := (blk_cell KY.out 2).trans rfl
  have zY3_ : W27.cell? ⟨gy, 3, none⟩ = some (.slice Y3 g.f3.length y3_) := (blk_cell KY.out 3).trans rfl
  have zP0_ : W27.cell? ⟨gpa, 0, none⟩ = some (.int .i64 0) := (blk_cell KP.out 0).trans rfl
  have zP1_ : W27.cell? ⟨gpa, 1, none⟩ = some (.slice none 0 0) := (blk_cell KP.out 1).trans rfl
  have zP2_ : W27.cell? ⟨gpa, 2, none⟩ = some (.slice none 0 0) := (blk_cell KP.out 2).trans rfl
  have zP3_ : W27.cell? ⟨gpa, 3, none⟩ = some (.slice none 0 0) := (blk_cell KP.out 3).trans rfl
  have zQ0_ : W27.cell? ⟨gq, 0, none⟩ = some (.int .i64 0) := (blk_cell KQ.out 0).trans rfl
  have zQ1_ : W27.cell? ⟨gq, 1, none⟩ = some (.slice none 0 0) := (blk_cell KQ.out 1).trans rfl
  have zQ2_ : W27.cell? ⟨gq, 2, none⟩ = some (.slice none 0 0) := (blk_cell KQ.out 2).trans rfl
  have zQ3_ : W27.cell? ⟨gq, 3, none⟩ = some (.slice none 0 0) := (blk_cell KQ.out 3).trans rfl
  have zR0_ : W27.cell? ⟨gr, 0, none⟩ = some (.int .i64 0) := (blk_cell KR.out 0).trans rfl
  have zR1_ : W27.cell? ⟨gr, 1, none⟩ = some (.slice none 0 0) := (blk_cell KR.out 1).trans rfl
  have zR2_ : W27.cell? ⟨gr, 2, none⟩ = some (.slice none 0 0) := (blk_cell KR.out 2).trans rfl
  have zR3_ : W27.cell? ⟨gr, 3, none⟩ = some (.slice none 0 0) := (blk_cell KR.out 3).trans rfl
  have zS0_ : W27.cell? ⟨gs, 0, none⟩ = some (.int .i64 0) := (blk_cell KS.out 0).trans rfl
  have zS1_ : W27.cell? ⟨gs, 1, none⟩ = some (.slice none 0 0) := (blk_cell KS.out 1).trans rfl
  have zS2_ : W27.cell? ⟨gs, 2, none⟩ = some (.slice none 0 0) := (blk_cell KS.out 2).trans rfl
  have zS3_ : W27.cell? ⟨gs, 3, none⟩ = some (.slice none 0 0) := (blk_cell KS.out 3).trans rfl
  go_wp2_with fail
  go_ret
  exact ⟨rfl, HB.out⟩
end Go.Proofs.YtiiolhnpnlmkjaaDoor.Tree
