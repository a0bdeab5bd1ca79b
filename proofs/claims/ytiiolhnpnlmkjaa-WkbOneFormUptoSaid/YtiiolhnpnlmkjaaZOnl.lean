/- Texts of this claim laid one behind the other (TWAlive; TLawOneForm; TOpen; TOpenW; TRowOneForm): what each proves stands at its own names; the last one is the claim's. No conditions but those told. -/
import Derived.Test.YtiiolhnpnlmkjaaZOnk
import Derived.Test.YtiiolhnpnlmkjaaRows
import Derived.ChangeArms
import Derived.ChangeShapes
import Derived.WalkKit
import Derived.ProofKit
import Derived.OpenShut
import Derived.JoinedCond
import Derived.Carry
namespace Go.Proofs.Ytiiolhnpnlmkjaa.Tree
open Go.RowKit Go.Proofs.Ytiiolhnpnlmkjaa.PWkbPrints Go.Proofs.YtiiolhnpnlmkjaaW.PrintWords Go.Proofs.YtiiolhnpnlmkjaaW.PrintLast Go.Proofs.YtiiolhnpnlmkjaaW.PrintMore
attribute [local go_sem] Oper.semAt_some max2_int max_two min2_int min_two
def gA : Ge := ⟨1, [⟨4607182418800017408, 4611686018427387904⟩], [], []⟩
def bA : List Int := [1, 1, 0, 0, 0, 0, 0, 0, 0, 0, 0, 240, 63, 0, 0, 0, 0, 0, 0, 0, 64]
def sA : ByteArray := ⟨#[48, 49, 48, 49, 48, 48, 48, 48, 48, 48, 48, 48, 48, 48, 48, 48, 48, 48, 48, 48, 48, 48, 102, 48, 51, 102, 48, 48, 48, 48, 48, 48, 48, 48, 48, 48, 48, 48, 48, 48, 52, 48]⟩
theorem gA_check : checkR gA = none := by kernel_rfl
theorem gA_bytes : geoB [true] gA 0 = bA := by kernel_rfl
theorem gA_parsed : parsedR bA 1 21 = .ok (gA, [true]) := by kernel_rfl
theorem gA_hex : PMk.octet_Hex.f 30 bA = some sA := by kernel_rfl
set_option maxRecDepth 100000 in
set_option maxHeartbeats 16000000 in
theorem alive_calls (w : World) : Calls Try.prog 6 #[] w fun e w' => e = .returned (.bool true) ∧ Below w.heap.size w w' := by
  have hu := Try.underlying28
  go_enter Try.func6, Try.ntmps6
  go_upto_region 2 with fail
  obtain ⟨gl, hgl⟩ : ∃ y, y = w.heap.size := ⟨_, rfl⟩
  obtain ⟨W1, hW1⟩ : ∃ y, y = (w.alloc (.cells #[.int .u64 4607182418800017408, .int .u64 4611686018427387904] 65)).alloc (.cells #[.int .i64 1, .slice (some ⟨w.heap.size, 0, none⟩) 1 1, .slice none 0 0, .slice none 0 0] 28) := ⟨_, rfl⟩
  rw [← hW1, ← hgl]
  have hb1 : Below w.heap.size w W1 := by rw [hW1]; exact below_alloc (below_alloc (Below.refl _ _) _) _
  have kl : W1.heap[gl]? = some (.cells #[.int .u64 4607182418800017408, .int .u64 4611686018427387904] 65 (0, 0)) := by rw [hW1, hgl]; exact blk_alloc (World.alloc_heap_new _ _) _
  have kg : W1.heap[gl + 1]? = some (.cells #[.int .i64 1, .slice (some ⟨gl, 0, none⟩) 1 1, .slice none 0 0, .slice none 0 0] 28 (0, 0)) := by
    rw [hW1, hgl]
    have h9 := World.alloc_heap_new (w.alloc (.cells #[.int .u64 4607182418800017408, .int .u64 4611686018427387904] 65)) (.cells #[.int .i64 1, .slice (some ⟨w.heap.size, 0, none⟩) 1 1, .slice none 0 0, .slice none 0 0] 28)
    simpa using h9
  have hIG : IsG W1 (.agg #[.int .i64 1, .slice (some ⟨gl, 0, none⟩) 1 1, .slice none 0 0, .slice none 0 0]) gA := ⟨_, 1, none, 0, none, 0, rfl, Nat.le_refl _, lit_pt (q := ⟨4607182418800017408, 4611686018427387904⟩) kl, Nat.le_refl _, Kd.C_nil _ _, Nat.le_refl _, Kd.C_nil _ _⟩
  have H1 := Aside0.mk (And.intro (And.intro hb1 kg) hIG)
  have z0_ : W1.cell? ⟨gl + 1, 0, none⟩ = some (.int .i64 1) := (blk_cell kg 0).trans rfl
  have z1_ : W1.cell? ⟨gl + 1, 1, none⟩ = some (.slice (some ⟨gl, 0, none⟩) 1 1) := (blk_cell kg 1).trans rfl
  have z2_ : W1.cell? ⟨gl + 1, 2, none⟩ = some (.slice none 0 0) := (blk_cell kg 2).trans rfl
  have z3_ : W1.cell? ⟨gl + 1, 3, none⟩ = some (.slice none 0 0) := (blk_cell kg 3).trans rfl
  clear hW1 hgl hb1 kl kg hIG
  go_wp2_with fail
  refine (print_calls _ gA true W1 H1.out.2 (by decide)).mono ?_
  rintro e W2 ⟨u, er, rfl, hR, hE, hb2⟩
  rw [mixedB, if_pos gA_check, gA_bytes] at hR
  rw [gA_check] at hE
  obtain rfl : er = .nilIface := hE
  obtain ⟨A, c, e2⟩ := Kd.R_slice hR
  have hlA : bA.length = 21 := rfl
  rw [hlA] at e2
  subst e2
  have H2 := Aside0.mk (And.intro (And.intro (below_step H1.out.1.1 hb2) (blk_below H1.out.1.2 hb2)) (And.intro (H1.out.2.below hb2) (Kd.R_reads' hR).2))
  clear z0_ z1_ z2_ z3_ hb2 hR H1
  go_wp2_with fail
  refine (parse_calls A c bA 1 21 W2 H2.out.2.2.2 H2.out.2.2.1 (by decide)).mono ?_
  rintro e W3 ⟨uh, eh, rfl, hb3, -, hO⟩
  obtain ⟨rfl, hcp⟩ := hO _ gA_parsed
  have hig := hcp.isG
  have H3 := Aside0.mk (And.intro (And.intro (below_step H2.out.1.1 hb3) (blk_below H2.out.1.2 hb3)) (And.intro (And.intro (H2.out.2.1.below hb3) (And.intro H2.out.2.2.1 (Kd.C_below H2.out.2.2.2 hb3))) hig))
  obtain ⟨k, A1, n1, c1, A2, n2, c2, A3, n3, c3, e3⟩ := hcp.agg
  subst e3
  clear hb3 hO hcp H2 hig
  go_upto_region 4 with fail
  obtain ⟨W4, hW4⟩ : ∃ y, y = W3.alloc (.cells #[.int .i64 k, .slice A1 n1 c1, .slice A2 n2 c2, .slice A3 n3 c3] 28) := ⟨_, rfl⟩
  obtain ⟨gh, hgh⟩ : ∃ y, y = W3.heap.size := ⟨_, rfl⟩
  rw [← hW4, ← hgh]
  have hb4 : Below W3.heap.size W3 W4 := by rw [hW4]; exact below_alloc (Below.refl _ _) _
  have kh : W4.heap[gh]? = some (.cells #[.int .i64 k, .slice A1 n1 c1, .slice A2 n2 c2, .slice A3 n3 c3] 28 (0, 0)) := by rw [hW4, hgh]; exact World.alloc_heap_new _ _
  have kg := blk_below H3.out.1.2 hb4
  have H4 := Aside0.mk (And.intro (And.intro (below_step H3.out.1.1 hb4) (And.intro kg kh)) (And.intro (And.intro (H3.out.2.1.1.below hb4) (And.intro H3.out.2.1.2.1 (Kd.C_below H3.out.2.1.2.2 hb4))) (H3.out.2.2.below hb4)))
  clear hW4 hgh hb4 kg kh H3
  go_wp2_with fail
  refine (PMk.octet_Hex.calls 30 A c bA sA W4 H4.out.2.1.2.2 H4.out.2.1.2.1 gA_hex).mono ?_
  rintro e W5 ⟨rfl, hb5⟩
  have H5 := Aside0.mk (And.intro (below_step H4.out.1.1 hb5) (And.intro (H4.out.2.1.1.below hb5) (H4.out.2.2.below hb5)))
  have kg := blk_below H4.out.1.2.1 hb5
  have kh := blk_below H4.out.1.2.2 hb5
  have z0_ : W5.cell? ⟨gl + 1, 0, none⟩ = some (.int .i64 1) := (blk_cell kg 0).trans rfl
  have z1_ : W5.cell? ⟨gl + 1, 1, none⟩ = some (.slice (some ⟨gl, 0, none⟩) 1 1) := (blk_cell kg 1).trans rfl
  have z2_ : W5.cell? ⟨gl + 1, 2, none⟩ = some (.slice none 0 0) := (blk_cell kg 2).trans rfl
  have z3_ : W5.cell? ⟨gl + 1, 3, none⟩ = some (.slice none 0 0) := (blk_cell kg 3).trans rfl
  have y0_ : W5.cell? ⟨gh, 0, none⟩ = some (.int .i64 k) := (blk_cell kh 0).trans rfl
  have y1_ : W5.cell? ⟨gh, 1, none⟩ = some (.slice A1 n1 c1) := (blk_cell kh 1).trans rfl
  have y2_ : W5.cell? ⟨gh, 2, none⟩ = some (.slice A2 n2 c2) := (blk_cell kh 2).trans rfl
  have y3_ : W5.cell? ⟨gh, 3, none⟩ = some (.slice A3 n3 c3) := (blk_cell kh 3).trans rfl
  have hstr : (sA.toList == [48, 49, 48, 49, 48, 48, 48, 48, 48, 48, 48, 48, 48, 48, 48, 48, 48, 48, 48, 48, 48, 48, 102, 48, 51, 102, 48, 48, 48, 48, 48, 48, 48, 48, 48, 48, 48, 48, 48, 48, 52, 48]) = true := by kernel_rfl
  clear hb5 H4 kg kh
  go_wp2_with fail
  refine (equal_calls gA.bulk _ _ gA gA W5 H5.out.2.1 H5.out.2.2 (Nat.le_refl _) (by decide) (by decide)).mono ?_
  rintro e W6 ⟨rfl, hb6⟩
  rw [eqG_true rfl]
  have HB6 := Aside0.mk (below_step H5.out.1 hb6)
  clear hb6
  go_wp2_with fail
  go_ret
  exact ⟨rfl, HB6.out⟩
end Go.Proofs.Ytiiolhnpnlmkjaa.Tree
namespace Go.Proofs.Ytiiolhnpnlmkjaa.Tree
open Go.RowKit Go.Proofs.Ytiiolhnpnlmkjaa.PWkbPrints Go.Proofs.YtiiolhnpnlmkjaaW.PrintWords Go.Proofs.YtiiolhnpnlmkjaaW.PrintLast Go.Proofs.YtiiolhnpnlmkjaaW.PrintMore Go.Proofs.Ytiiolhnpnlmkjaa.PMk
attribute [local go_sem] Oper.semAt_some max2_int max_two min2_int min_two
theorem info5c : (Try.prog.info? 5).map (fun i => (i.zero, i.size, i.bytes)) = some (some (.int .u8 0), 1, 1) := by kernel_rfl
set_option maxRecDepth 100000 in
set_option maxHeartbeats 32000000 in
theorem one_calls (A : Option Addr) (c : Nat) (l : List Wn) (A2 : Option Addr) (c2 : Nat) (X : List Int) (W : World) (hC : Kd.C kWn W A l.length l) (hl : l.length ≤ 1048576) (hxl : ∀ x ∈ l, x.f2.length ≤ 1048576) (hxy : Xy l) (hCX : kB.C W A2 X.length X) (hcX : X.length ≤ c2) (hBX : Byt X) :
    Calls Try.prog 3 #[.slice A l.length c, .slice A2 X.length c2] W fun e W' => e = .returned (.bool true) ∧ Below W.heap.size W W' := by
  have hu := Try.underlying28
  have hmx : Try.prog.follows .mixedOrders = true := by kernel_rfl
  have HT := Aside0.mk (treeM_ok hxy)
  obtain ⟨g, hg⟩ : ∃ y, y = treeM l := ⟨_, rfl⟩
  have HGE := Aside0.mk hg
  rw [← hg] at HT
  have HBX := Aside0.mk hBX
  have HB := Aside0.mk (Below.refl W.heap.size W)
  have HC := Aside0.mk hC
  have RX := Aside0.mk (And.intro hcX hCX)
  clear hg hC hCX hcX hBX
  go_enter Try.func3, Try.ntmps3
  go_wp2_with fail
  refine (grown_calls A c l W HC.out hl hxl hxy).mono ?_
  rintro e W1 ⟨u, rfl, hcp, hb_⟩
  rw [← HGE.out] at hcp
  obtain ⟨G1, g1_, G2, g2_, G3, g3_, rfl, hig⟩ := hcp.isG
  have IG := Aside0.mk (show IsG W1 (.agg #[.int .i64 g.f0, .slice G1 g.f1.length g1_, .slice G2 g.f2.length g2_, .slice G3 g.f3.length g3_]) g from ⟨G1, g1_, G2, g2_, G3, g3_, rfl, hig⟩)
  clear hcp hig HC
  replace HB := Aside0.mk (below_step HB.out hb_)
  replace RX := Aside0.mk (And.intro RX.out.1 (Kd.C_below RX.out.2 hb_))
  clear hb_
  go_upto_region 2 with fail
  obtain ⟨gl, hgl_⟩ : ∃ x, x = W1.heap.size := ⟨_, rfl⟩
  obtain ⟨W2, hW2_⟩ : ∃ x, x = W1.alloc (.cells #[.int .i64 g.f0, .slice G1 g.f1.length g1_, .slice G2 g.f2.length g2_, .slice G3 g.f3.length g3_] 28) := ⟨_, rfl⟩
  rw [← hW2_, ← hgl_]
  have KG := Aside0.mk (show W2.heap[gl]? = some (.cells #[.int .i64 g.f0, .slice G1 g.f1.length g1_, .slice G2 g.f2.length g2_, .slice G3 g.f3.length g3_] 28 (0, 0)) by rw [hW2_, hgl_]; exact World.alloc_heap_new _ _)
  have hb_ : Below W1.heap.size W1 W2 := by rw [hW2_]; exact below_alloc (Below.refl _ _) _
  clear hW2_ hgl_
  replace HB := Aside0.mk (below_step HB.out hb_)
  replace RX := Aside0.mk (And.intro RX.out.1 (Kd.C_below RX.out.2 hb_))
  replace IG := Aside0.mk (IG.out.below hb_)
  clear hb_
  have zG0_ : W2.cell? ⟨gl, 0, none⟩ = some (.int .i64 g.f0) := (blk_cell KG.out 0).trans rfl
  have zG1_ : W2.cell? ⟨gl, 1, none⟩ = some (.slice G1 g.f1.length g1_) := (blk_cell KG.out 1).trans rfl
  have zG2_ : W2.cell? ⟨gl, 2, none⟩ = some (.slice G2 g.f2.length g2_) := (blk_cell KG.out 2).trans rfl
  have zG3_ : W2.cell? ⟨gl, 3, none⟩ = some (.slice G3 g.f3.length g3_) := (blk_cell KG.out 3).trans rfl
  go_wp2_with fail
  clear zG0_ zG1_ zG2_ zG3_
  refine (alive_calls W2).mono ?_
  rintro e W3 ⟨rfl, hb_⟩
  replace HB := Aside0.mk (below_step HB.out hb_)
  replace RX := Aside0.mk (And.intro RX.out.1 (Kd.C_below RX.out.2 hb_))
  replace IG := Aside0.mk (IG.out.below hb_)
  replace KG := Aside0.mk (blk_below KG.out hb_)
  clear hb_
  have zG0_ : W3.cell? ⟨gl, 0, none⟩ = some (.int .i64 g.f0) := (blk_cell KG.out 0).trans rfl
  have zG1_ : W3.cell? ⟨gl, 1, none⟩ = some (.slice G1 g.f1.length g1_) := (blk_cell KG.out 1).trans rfl
  have zG2_ : W3.cell? ⟨gl, 2, none⟩ = some (.slice G2 g.f2.length g2_) := (blk_cell KG.out 2).trans rfl
  have zG3_ : W3.cell? ⟨gl, 3, none⟩ = some (.slice G3 g.f3.length g3_) := (blk_cell KG.out 3).trans rfl
  go_wp2_with fail
  clear zG0_ zG1_ zG2_ zG3_
  refine (print_calls _ g true W3 IG.out (by have := HT.out.2.2.1; omega)).mono ?_
  rintro e W4 ⟨u, er, rfl, hR, hE, hb_⟩
  rw [mixedB, if_pos HT.out.2.2.2] at hR
  rw [HT.out.2.2.2] at hE
  obtain rfl : er = .nilIface := hE
  obtain ⟨b, hbdef⟩ : ∃ y, y = geoB [true] g 0 := ⟨_, rfl⟩
  rw [← hbdef] at hR
  have HBD := Aside0.mk hbdef
  have HBY := Aside0.mk (show Byt b by rw [hbdef]; exact (byt_geo [true] g.bulk).1 g 0 (Nat.le_refl _))
  have hbl : b.length ≤ 1048576 := by have := (geoB_le [true] g 0).1; have := HT.out.2.2.1; rw [hbdef]; omega
  obtain ⟨D, d, e2_⟩ := Kd.R_slice hR
  subst e2_
  have RB := Aside0.mk (Kd.R_reads' hR).2
  clear hR hbdef
  replace HB := Aside0.mk (below_step HB.out hb_)
  replace RX := Aside0.mk (And.intro RX.out.1 (Kd.C_below RX.out.2 hb_))
  replace IG := Aside0.mk (IG.out.below hb_)
  replace KG := Aside0.mk (blk_below KG.out hb_)
  clear hb_
  have zG0_ : W4.cell? ⟨gl, 0, none⟩ = some (.int .i64 g.f0) := (blk_cell KG.out 0).trans rfl
  have zG1_ : W4.cell? ⟨gl, 1, none⟩ = some (.slice G1 g.f1.length g1_) := (blk_cell KG.out 1).trans rfl
  have zG2_ : W4.cell? ⟨gl, 2, none⟩ = some (.slice G2 g.f2.length g2_) := (blk_cell KG.out 2).trans rfl
  have zG3_ : W4.cell? ⟨gl, 3, none⟩ = some (.slice G3 g.f3.length g3_) := (blk_cell KG.out 3).trans rfl
  go_wp2_with fail
  clear zG0_ zG1_ zG2_ zG3_
  refine (cut_calls A2 c2 X W4 RX.out.2 RX.out.1).mono ?_
  rintro e W5 ⟨u, rfl, hR, hb_⟩
  obtain ⟨Y, hY⟩ : ∃ y, y = cutB X := ⟨_, rfl⟩
  have hYl : Y.length ≤ 1500 := by rw [hY]; exact cutB_len X
  have HYY := Aside0.mk (show Byt Y by rw [hY]; exact fun x hx => HBX.out x (List.mem_of_mem_take hx))
  rw [← hY] at hR
  clear hY
  obtain ⟨E1, e1, e2_⟩ := Kd.R_slice hR
  subst e2_
  have RY := Aside0.mk (Kd.R_reads' hR).2
  clear hR
  replace HB := Aside0.mk (below_step HB.out hb_)
  replace RX := Aside0.mk (And.intro RX.out.1 (Kd.C_below RX.out.2 hb_))
  replace IG := Aside0.mk (IG.out.below hb_)
  replace KG := Aside0.mk (blk_below KG.out hb_)
  replace RB := Aside0.mk (And.intro RB.out.1 (Kd.C_below RB.out.2 hb_))
  clear hb_
  go_wp2_with fail
  obtain ⟨gs, hgs_⟩ : ∃ x, x = W5.heap.size := ⟨_, rfl⟩
  obtain ⟨W6, hW6_⟩ : ∃ x, x = W5.alloc (.cells #[.slice E1 Y.length e1, .slice D b.length d] 23) := ⟨_, rfl⟩
  rw [← hW6_, ← hgs_]
  have KL := Aside0.mk (show W6.heap[gs]? = some (.cells #[.slice E1 Y.length e1, .slice D b.length d] 23 (0, 0)) by rw [hW6_, hgs_]; exact World.alloc_heap_new _ _)
  have hb_ : Below W5.heap.size W5 W6 := by rw [hW6_]; exact below_alloc (Below.refl _ _) _
  clear hW6_ hgs_
  replace HB := Aside0.mk (below_step HB.out hb_)
  replace RX := Aside0.mk (And.intro RX.out.1 (Kd.C_below RX.out.2 hb_))
  replace IG := Aside0.mk (IG.out.below hb_)
  replace KG := Aside0.mk (blk_below KG.out hb_)
  replace RB := Aside0.mk (And.intro RB.out.1 (Kd.C_below RB.out.2 hb_))
  replace RY := Aside0.mk (And.intro RY.out.1 (Kd.C_below RY.out.2 hb_))
  clear hb_
  have HX := Aside0.mk (And.intro HB.out (And.intro KL.out (And.intro RY.out RB.out)))
  clear HB KL RY RB RX IG KG
  obtain ⟨N, hN⟩ : ∃ N, N = 2 := ⟨_, rfl⟩
  have HN := Aside0.mk hN
  clear hN
  go_loopg [10] N (fun kq i wr => ∃ j : Nat, j + kq = N ∧ i = .int .i64 (j : Int) ∧ Aside0 (Below W6.heap.size W6 wr))
  case atStart => exact ⟨0, by omega, rfl, ⟨Below.refl _ _⟩⟩
  case round =>
    obtain ⟨j, hj, rfl, HF⟩ := hrel
    have HJ := Aside0.mk hj
    clear hj
    cases gk with
    | zero =>
      have hlt : ¬ ((j : Int) < 2) := by have := HJ.out; have := HN.out; omega
      go_wp2_with fail
      go_ret
      exact ⟨rfl, below_step HX.out.1 HF.out⟩
    | succ kq =>
      have hj2 : j < 2 := by have := HJ.out; have := HN.out; omega
      have hlt : (j : Int) < 2 := by omega
      obtain ⟨A, c, B, hcell, hRB, hBY, hbl, hBj⟩ : ∃ (A : Option Addr) (c : Nat) (B : List Int), W6.cell? ⟨gs, j, none⟩ = some (.slice A B.length c) ∧ (B.length ≤ c ∧ kB.C W6 A B.length B) ∧ Byt B ∧ B.length ≤ 1048576 ∧ (j = 1 → B = b) := by
        rcases (show j = 0 ∨ j = 1 by omega) with rfl | rfl
        · exact ⟨E1, e1, Y, (blk_cell HX.out.2.1 0).trans rfl, HX.out.2.2.1, HYY.out, by omega, fun h => by omega⟩
        · exact ⟨D, d, b, (blk_cell HX.out.2.1 1).trans rfl, HX.out.2.2.2, HBY.out, hbl, fun _ => rfl⟩
      have hz := (HF.out.cell (World.block_lt_of_cell? W6 _ hcell)).trans hcell
      have hBc := hRB.1
      have HZ := Aside0.mk hz
      have RC := Aside0.mk (Kd.C_below hRB.2 HF.out)
      have HBj := Aside0.mk hBj
      have HY9 := Aside0.mk hBY
      have HK0 := Aside0.mk (Below.refl wr.heap.size wr)
      clear hcell hRB hBY hBj
      go_wp2_with fail
      rcases parsed_cases B 256 65536 with ⟨p, ec, hpr⟩ | ⟨h, os, hpr⟩
      · clear hz
        refine (parse_err A c B 256 65536 wr (p, ec) RC.out hBc hbl hpr).mono ?_
        rintro e W7 ⟨gep, rfl, hev_, hb_⟩
        clear hev_
        replace RC := Aside0.mk (Kd.C_below RC.out hb_)
        replace HK0 := Aside0.mk (below_step HK0.out hb_)
        replace HZ := Aside0.mk ((hb_.cell (World.block_lt_of_cell? _ _ HZ.out)).trans HZ.out)
        clear hb_
        have hz := HZ.out
        go_upto_region 12 with fail
        clear hz
        obtain ⟨gp, hgp_⟩ : ∃ x, x = W7.heap.size := ⟨_, rfl⟩
        obtain ⟨W8, hW8_⟩ : ∃ x, x = W7.alloc (.cells #[.int .i64 0, .slice none 0 0, .slice none 0 0, .slice none 0 0] 28) := ⟨_, rfl⟩
        rw [← hW8_, ← hgp_]
        have KP := Aside0.mk (show W8.heap[gp]? = some (.cells #[.int .i64 0, .slice none 0 0, .slice none 0 0, .slice none 0 0] 28 (0, 0)) by rw [hW8_, hgp_]; exact World.alloc_heap_new _ _)
        have hb_ : Below W7.heap.size W7 W8 := by rw [hW8_]; exact below_alloc (Below.refl _ _) _
        clear hW8_ hgp_
        replace RC := Aside0.mk (Kd.C_below RC.out hb_)
        replace HK0 := Aside0.mk (below_step HK0.out hb_)
        replace HZ := Aside0.mk ((hb_.cell (World.block_lt_of_cell? _ _ HZ.out)).trans HZ.out)
        clear hb_
        have hz := HZ.out
        go_wp2_with fail
        clear hz
        refine (orders_calls A c B W8 RC.out hBc hbl).mono ?_
        rintro e W9 ⟨v, ev, rfl, hb_, hE, hO⟩
        obtain ⟨rfl, hev_⟩ := hE _ hpr
        obtain ⟨ge2, rfl⟩ := ErrV.iface hev_
        clear hev_ hE hO
        replace RC := Aside0.mk (Kd.C_below RC.out hb_)
        replace HK0 := Aside0.mk (below_step HK0.out hb_)
        replace HZ := Aside0.mk ((hb_.cell (World.block_lt_of_cell? _ _ HZ.out)).trans HZ.out)
        replace KP := Aside0.mk (blk_below KP.out hb_)
        clear hb_
        have HPR := Aside0.mk hpr
        clear hpr
        rcases (show j = 0 ∨ j = 1 by omega) with rfl | rfl
        · have hz := HZ.out
          go_wp2_with fail
          go_quiet (fail)
          go_wp2_with fail
          go_roundg kq
          case measure => omega
          case rel => exact ⟨1, by have := HJ.out; omega, by go_num, ⟨below_step HF.out (below_step HK0.out (pw_below_drewN (Below.refl _ _) _))⟩⟩
        · have hbig0 : ¬ ((b.length : Int) ≤ 65536) := fun hb6 => by
            have h1 := HPR.out
            rw [HBj.out rfl, HBD.out] at h1
            rw [HBD.out] at hb6
            rw [parsed_print [true] g 256 65536 HT.out.1 (by have := HT.out.2.2.1; omega) (fun x hx => by have := HT.out.2.1 x hx; omega) (by omega)] at h1
            cases h1
          have hbig : (65536 : Int) < (b.length : Int) := by omega
          have hbig2 : decide ((b.length : Int) ≤ 65536) = false := decide_eq_false hbig0
          have hz := HZ.out
          go_wp2_with fail
          go_quiet (fail)
          go_wp2_with fail
          go_roundg kq
          case measure => omega
          case rel => exact ⟨2, by have := HJ.out; omega, by go_num, ⟨below_step HF.out (below_step HK0.out (pw_below_drewN (Below.refl _ _) _))⟩⟩
      have HK := Aside0.mk (back_walk2 HY9.out hpr)
      have HPR := Aside0.mk hpr
      clear hpr
      clear hz
      refine (parse_ok A c B 256 65536 wr h os RC.out hBc hbl HPR.out).mono ?_
      rintro e W7 ⟨X1, x1_, X2, x2_, X3, x3_, rfl, hcp, hb_⟩
      have IX := Aside0.mk (CopyOf.isG hcp)
      clear hcp
      replace RC := Aside0.mk (Kd.C_below RC.out hb_)
      replace HK0 := Aside0.mk (below_step HK0.out hb_)
      replace HZ := Aside0.mk ((hb_.cell (World.block_lt_of_cell? _ _ HZ.out)).trans HZ.out)
      clear hb_
      have hz := HZ.out
      go_upto_region 12 with fail
      clear hz
      obtain ⟨gx, hgx_⟩ : ∃ x, x = W7.heap.size := ⟨_, rfl⟩
      obtain ⟨W8, hW8_⟩ : ∃ x, x = W7.alloc (.cells #[.int .i64 h.f0, .slice X1 h.f1.length x1_, .slice X2 h.f2.length x2_, .slice X3 h.f3.length x3_] 28) := ⟨_, rfl⟩
      rw [← hW8_, ← hgx_]
      have KX := Aside0.mk (show W8.heap[gx]? = some (.cells #[.int .i64 h.f0, .slice X1 h.f1.length x1_, .slice X2 h.f2.length x2_, .slice X3 h.f3.length x3_] 28 (0, 0)) by rw [hW8_, hgx_]; exact World.alloc_heap_new _ _)
      have hb_ : Below W7.heap.size W7 W8 := by rw [hW8_]; exact below_alloc (Below.refl _ _) _
      clear hW8_ hgx_
      replace RC := Aside0.mk (Kd.C_below RC.out hb_)
      replace HK0 := Aside0.mk (below_step HK0.out hb_)
      replace HZ := Aside0.mk ((hb_.cell (World.block_lt_of_cell? _ _ HZ.out)).trans HZ.out)
      replace IX := Aside0.mk (IX.out.below hb_)
      clear hb_
      have zX0_ : W8.cell? ⟨gx, 0, none⟩ = some (.int .i64 h.f0) := (blk_cell KX.out 0).trans rfl
      have zX1_ : W8.cell? ⟨gx, 1, none⟩ = some (.slice X1 h.f1.length x1_) := (blk_cell KX.out 1).trans rfl
      have zX2_ : W8.cell? ⟨gx, 2, none⟩ = some (.slice X2 h.f2.length x2_) := (blk_cell KX.out 2).trans rfl
      have zX3_ : W8.cell? ⟨gx, 3, none⟩ = some (.slice X3 h.f3.length x3_) := (blk_cell KX.out 3).trans rfl
      have hz := HZ.out
      go_wp2_with fail
      clear zX0_ zX1_ zX2_ zX3_ hz
      refine (orders_calls A c B W8 RC.out hBc hbl).mono ?_
      rintro e W9 ⟨v, ev, rfl, hb_, hE, hO⟩
      obtain ⟨rfl, hR⟩ := hO _ HPR.out
      dsimp only at hR
      obtain ⟨O, co, e2_⟩ := Kd.R_slice hR
      subst e2_
      have RO := Aside0.mk (Kd.R_reads' hR).2
      clear hR hE hO
      replace RC := Aside0.mk (Kd.C_below RC.out hb_)
      replace HK0 := Aside0.mk (below_step HK0.out hb_)
      replace HZ := Aside0.mk ((hb_.cell (World.block_lt_of_cell? _ _ HZ.out)).trans HZ.out)
      replace IX := Aside0.mk (IX.out.below hb_)
      replace KX := Aside0.mk (blk_below KX.out hb_)
      clear hb_
      have zX0_ : W9.cell? ⟨gx, 0, none⟩ = some (.int .i64 h.f0) := (blk_cell KX.out 0).trans rfl
      have zX1_ : W9.cell? ⟨gx, 1, none⟩ = some (.slice X1 h.f1.length x1_) := (blk_cell KX.out 1).trans rfl
      have zX2_ : W9.cell? ⟨gx, 2, none⟩ = some (.slice X2 h.f2.length x2_) := (blk_cell KX.out 2).trans rfl
      have zX3_ : W9.cell? ⟨gx, 3, none⟩ = some (.slice X3 h.f3.length x3_) := (blk_cell KX.out 3).trans rfl
      have hz := HZ.out
      go_upto_region 13 with fail
      go_cut [77] from 60 to 76 (fun v wx => v = .bool false ∧ Below W9.heap.size W9 wx)
      case first =>
        rcases (show j = 0 ∨ j = 1 by omega) with rfl | rfl
        · go_quiet (fail)
          go_wp2_with fail
          go_meet
          exact ⟨rfl, pw_below_drewN (Below.refl _ _) _⟩
        · by_cases hb6 : (b.length : Int) ≤ 65536
          · have hbig2 : decide ((b.length : Int) ≤ 65536) = true := decide_eq_true hb6
            go_quiet (fail)
            go_wp2_with fail
            go_meet
            exact ⟨rfl, pw_below_drewN (Below.refl _ _) _⟩
          · have hbig2 : decide ((b.length : Int) ≤ 65536) = false := decide_eq_false hb6
            have hbig : (65536 : Int) < (b.length : Int) := by omega
            clear hb6
            go_quiet (fail)
            go_wp2_with fail
            go_meet
            exact ⟨rfl, pw_below_drewN (Below.refl _ _) _⟩
      case rest =>
      obtain ⟨rfl, hb_⟩ := hcut
      clear zX0_ zX1_ zX2_ zX3_ hz
      replace RC := Aside0.mk (Kd.C_below RC.out hb_)
      replace HK0 := Aside0.mk (below_step HK0.out hb_)
      replace HZ := Aside0.mk ((hb_.cell (World.block_lt_of_cell? _ _ HZ.out)).trans HZ.out)
      replace IX := Aside0.mk (IX.out.below hb_)
      replace KX := Aside0.mk (blk_below KX.out hb_)
      replace RO := Aside0.mk (And.intro RO.out.1 (Kd.C_below RO.out.2 hb_))
      clear hb_
      have zX0_ : wc.cell? ⟨gx, 0, none⟩ = some (.int .i64 h.f0) := (blk_cell KX.out 0).trans rfl
      have zX1_ : wc.cell? ⟨gx, 1, none⟩ = some (.slice X1 h.f1.length x1_) := (blk_cell KX.out 1).trans rfl
      have zX2_ : wc.cell? ⟨gx, 2, none⟩ = some (.slice X2 h.f2.length x2_) := (blk_cell KX.out 2).trans rfl
      have zX3_ : wc.cell? ⟨gx, 3, none⟩ = some (.slice X3 h.f3.length x3_) := (blk_cell KX.out 3).trans rfl
      have hz := HZ.out
      go_wp2_with fail
      clear zX0_ zX1_ zX2_ zX3_ hz
      refine (mixed_calls _ h O co os wc IX.out RO.out.2 (by have := HK.out.2.1; omega) (by have := HK.out.2.2.2.1; omega)).mono ?_
      rintro e W10 ⟨u, er, rfl, hR, hE, hb_⟩
      rw [mixedB, if_pos HK.out.1] at hR
      rw [HK.out.1] at hE
      obtain rfl : er = .nilIface := hE
      obtain ⟨Q, hQ⟩ : ∃ z, z = geoB os h 0 := ⟨_, rfl⟩
      rw [← hQ] at hR
      have hQl : Q.length = B.length := by rw [hQ]; exact HK.out.2.2.2.2.1
      obtain ⟨E, e_, e2_⟩ := Kd.R_slice hR
      subst e2_
      have RQ := Aside0.mk (Kd.R_reads' hR).2
      have HQ := Aside0.mk hQ
      have HQL := Aside0.mk hQl
      rw [hQl] at RQ ⊢
      clear hR hQ hQl
      replace RC := Aside0.mk (Kd.C_below RC.out hb_)
      replace HK0 := Aside0.mk (below_step HK0.out hb_)
      replace HZ := Aside0.mk ((hb_.cell (World.block_lt_of_cell? _ _ HZ.out)).trans HZ.out)
      replace IX := Aside0.mk (IX.out.below hb_)
      replace KX := Aside0.mk (blk_below KX.out hb_)
      replace RO := Aside0.mk (And.intro RO.out.1 (Kd.C_below RO.out.2 hb_))
      clear hb_
      have zX0_ : W10.cell? ⟨gx, 0, none⟩ = some (.int .i64 h.f0) := (blk_cell KX.out 0).trans rfl
      have zX1_ : W10.cell? ⟨gx, 1, none⟩ = some (.slice X1 h.f1.length x1_) := (blk_cell KX.out 1).trans rfl
      have zX2_ : W10.cell? ⟨gx, 2, none⟩ = some (.slice X2 h.f2.length x2_) := (blk_cell KX.out 2).trans rfl
      have zX3_ : W10.cell? ⟨gx, 3, none⟩ = some (.slice X3 h.f3.length x3_) := (blk_cell KX.out 3).trans rfl
      have hz := HZ.out
      go_wp2_with fail
      clear zX0_ zX1_ zX2_ zX3_ hz
      refine (check_calls _ h W10 IX.out (by have := HK.out.2.1; omega)).mono ?_
      rintro e W11 ⟨u, rfl, hE, hb_⟩
      rw [HK.out.1] at hE
      obtain rfl : u = .nilIface := hE
      replace RC := Aside0.mk (Kd.C_below RC.out hb_)
      replace HK0 := Aside0.mk (below_step HK0.out hb_)
      replace HZ := Aside0.mk ((hb_.cell (World.block_lt_of_cell? _ _ HZ.out)).trans HZ.out)
      replace IX := Aside0.mk (IX.out.below hb_)
      replace KX := Aside0.mk (blk_below KX.out hb_)
      replace RO := Aside0.mk (And.intro RO.out.1 (Kd.C_below RO.out.2 hb_))
      replace RQ := Aside0.mk (And.intro RQ.out.1 (Kd.C_below RQ.out.2 hb_))
      clear hb_
      have zX0_ : W11.cell? ⟨gx, 0, none⟩ = some (.int .i64 h.f0) := (blk_cell KX.out 0).trans rfl
      have zX1_ : W11.cell? ⟨gx, 1, none⟩ = some (.slice X1 h.f1.length x1_) := (blk_cell KX.out 1).trans rfl
      have zX2_ : W11.cell? ⟨gx, 2, none⟩ = some (.slice X2 h.f2.length x2_) := (blk_cell KX.out 2).trans rfl
      have zX3_ : W11.cell? ⟨gx, 3, none⟩ = some (.slice X3 h.f3.length x3_) := (blk_cell KX.out 3).trans rfl
      have hz := HZ.out
      go_upto_region 19 with fail
      clear zX0_ zX1_ zX2_ zX3_ hz
      have hb0 : 0 < B.length := by have h1 := (size_geo os h.bulk).1 h; have h2 := sizeW_eq h; have := HK.out.2.2.1; split at h2 <;> (try split at h2) <;> (try split at h2) <;> omega
      have hz := HZ.out
      go_upto_region 20 with (first | ((with_reducible refine gate_dst (N := 103) rfl ?_); refine Kd.R_lit (Kd.int .u8) (w0 := W11) W11.heap.size 5 ?hg (N := 103) ?hd (xs := ([] : List Int)) (inner := []) (ok := fun _ => True) (okp := fun _ => True) ?hr ?hp (fun _ hk => hk) trivial (Below.refl _ _) (Nat.le_refl _) (by simp) ?_; (case hd => rfl); (case hg => rfl); (case hr => first | (go_simp; done) | (go_simp; rfl)); (case hp => exact (Reps.none _ _)); intro v103 w103 ho103 hb103 hg103 hn103; have O103 := Aside0.mk (And.intro ho103 hb103); have hz := (hb103.cell (World.block_lt_of_cell? _ _ HZ.out)).trans HZ.out; clear ho103 hb103 hg103 hn103) | ((with_reducible refine gate_builtin (b := .append) (xs := #[.tmp 103, .tmp 107]) rfl ?_); at_builtin; refine Kd.R_append_rows (Kd.int .u8) (w0 := W11) W11.heap.size rfl (.tmp 103) (.tmp 107) 23 5 (.int .u8 0) 1 rfl Try.underlying23 info5c rfl (by decide) (by omega) v103 [] B A B.length c (fun _ => True) (fun _ => False) rfl rfl ?aO ?aR (fun _ _ h => h) (fun _ h => h.elim) ?aF ?aB ?aS ?aL ?_; (case aO => exact O103.out.1); (case aR => exact (Kd.C_below RC.out O103.out.2)); (case aF => exact (fun _ _ => trivial)); (case aB => exact O103.out.2); (case aS => exact O103.out.2.size); (case aL => first | (simp; omega) | omega); intro v108 w108 ho108 hb108 hg108 hat108; obtain ⟨gb, cb, e108, hgb1, hgb2, -⟩ := Kd.R_form ho108 (by simp only [List.nil_append]; omega); subst e108; have O108 := Aside0.mk (And.intro ho108 hb108); clear ho108 hb108 hg108 hat108))
      clear hz
      obtain ⟨w1, hw1⟩ : ∃ z, z = W11 := ⟨_, rfl⟩
      have IX1 := Aside0.mk (show IsG w1 (.agg #[.int .i64 h.f0, .slice X1 h.f1.length x1_, .slice X2 h.f2.length x2_, .slice X3 h.f3.length x3_]) h by rw [hw1]; exact IX.out)
      have RQ1 := Aside0.mk (show Q.length ≤ e_ ∧ kB.C w1 E Q.length Q by rw [hw1, HQL.out]; exact RQ.out)
      have KW1 := Aside0.mk (show Below wr.heap.size wr w1 by rw [hw1]; exact HK0.out)
      have hR := O108.out.1
      have hb_ := O108.out.2
      simp only [List.nil_append] at hR ⊢
      rw [← hw1] at hR
      have KX1 := Aside0.mk (blk_below KX.out hb_)
      rw [← hw1] at hb_
      obtain ⟨gf, hgf⟩ : ∃ z, z = w108.heap.size := ⟨_, rfl⟩
      obtain ⟨W5, hW5⟩ : ∃ z, z = w108.alloc (.cells #[.slice (some ⟨gb, 0, none⟩) B.length cb, .int .i64 0] 47) := ⟨_, rfl⟩
      rw [← hW5, ← hgf]
      have hbz : Below w108.heap.size w108 W5 := by rw [hW5]; exact below_alloc (Below.refl _ _) _
      have HF5 := Aside0.mk (show Fi w1 W5 W5 gf gb cb B 0 from ⟨by rw [hW5, hgf]; exact World.alloc_heap_new _ _, Kd.R_below hR hbz, by rw [hgf]; exact hb_.size, below_step hb_ hbz, Kw.refl _ _ _⟩)
      have KX5 := Aside0.mk (blk_below KX1.out hbz)
      have HG5 := Aside0.mk (show gx ≠ gf ∧ gx ≠ gb from ⟨by have := blk_lt KX1.out; omega, by have h8 := blk_lt KX.out; omega⟩)
      clear hR hb_ hbz hW5 hw1 hgf hgb1 hgb2 O103 O108 KX KX1 IX RQ RC HZ HK0 RO
      have zX0_ : W5.cell? ⟨gx, 0, none⟩ = some (.int .i64 h.f0) := (blk_cell KX5.out 0).trans rfl
      have zX1_ : W5.cell? ⟨gx, 1, none⟩ = some (.slice X1 h.f1.length x1_) := (blk_cell KX5.out 1).trans rfl
      have zX2_ : W5.cell? ⟨gx, 2, none⟩ = some (.slice X2 h.f2.length x2_) := (blk_cell KX5.out 2).trans rfl
      have zX3_ : W5.cell? ⟨gx, 3, none⟩ = some (.slice X3 h.f3.length x3_) := (blk_cell KX5.out 3).trans rfl
      go_wp2_with fail
      refine (fwalk_calls h.bulk _ h w1 W5 W5 gf gb cb B 0 IX1.out (Nat.le_refl _) (by have := HK.out.2.1; omega) hbl (by have := HK.out.2.2.1; omega) HF5.out).mono ?_
      rintro e W6 ⟨rfl, hF6⟩
      rw [HK.out.2.2.2.2.2.1, HK.out.2.2.2.2.2.2, ← HQ.out] at hF6
      have HF6 := Aside0.mk hF6
      have hQl := HQL.out
      have z0 : W6.cell? ⟨gf, 0, none⟩ = some (.slice (some ⟨gb, 0, none⟩) B.length cb) := (blk_cell HF6.out.c 0).trans (by rw [hQl]; rfl)
      have z1 : W6.cell? ⟨gf, 1, none⟩ = some (.int .i64 (B.length : Int)) := (blk_cell HF6.out.c 1).trans rfl
      clear hF6 hQl zX0_ zX1_ zX2_ zX3_ KX5 HF5
      go_wp2_with fail
      have RR6 := Kd.R_reads' HF6.out.r
      have RQ6 := Kd.C_below RQ1.out.2 HF6.out.K
      rw [← HQL.out]
      refine (sameb_calls E e_ Q (some ⟨gb, 0, none⟩) cb W6 RQ6 RQ1.out.1 RR6.2.2 RR6.2.1 (by have := HQL.out; omega)).mono ?_
      rintro e W7 ⟨rfl, hb_⟩
      have HB7 := Aside0.mk (below_step (below_step (below_step HF.out KW1.out) HF6.out.K) hb_)
      clear RR6 RQ6 hb_ z0 z1
      go_wp2_with fail
      go_roundg kq
      case measure => omega
      case rel => exact ⟨j + 1, by have := HJ.out; omega, by go_num, HB7⟩
end Go.Proofs.Ytiiolhnpnlmkjaa.Tree
namespace Go.Proofs.Ytiiolhnpnlmkjaa.Tree
open Go.RowKit Go.Proofs.YtiiolhnpnlmkjaaW.PrintWords Go.Proofs.YtiiolhnpnlmkjaaW.PrintLast Go.Proofs.YtiiolhnpnlmkjaaW.PrintMore
theorem exists_list {α : Type} (P : Nat → α → Prop) : ∀ n : Nat, (∀ i, i < n → ∃ a, P i a) → ∃ xs : List α, xs.length = n ∧ ∀ i a, xs[i]? = some a → P i a := by
  intro n
  induction n with
  | zero => intro _; exact ⟨[], rfl, fun i a h => by simp at h⟩
  | succ n ih =>
    intro h
    obtain ⟨xs, hl, hx⟩ := ih (fun i hi => h i (by omega))
    obtain ⟨a, ha⟩ := h n (by omega)
    refine ⟨xs ++ [a], by simp [hl], fun i b hb => ?_⟩
    by_cases hi : i < xs.length
    · rw [List.getElem?_append_left hi] at hb; exact hx i b hb
    · have hlt := (List.getElem?_eq_some_iff.1 hb).1
      simp at hlt
      obtain rfl : i = n := by omega
      rw [List.getElem?_append_right (by omega)] at hb
      simp [hl] at hb
      subst hb; exact ha
theorem sum_le {α H : Type} (wt : α → Nat) : ∀ (xs : List α) (ys : List (DataW H)), xs.length = ys.length → (∀ (i : Nat) (a : α) (y : DataW H), xs[i]? = some a → ys[i]? = some y → wt a ≤ Rows.uptoBulk y) → (xs.map wt).sum ≤ Rows.uptoBulkAll ys := by
  intro xs
  induction xs with
  | nil => intro ys _ _; simp
  | cons a xs ih =>
    intro ys hl h
    cases ys with
    | nil => simp at hl
    | cons y ys =>
      simp only [List.map_cons, List.sum_cons, Rows.uptoBulkAll]
      have h1 := h 0 a y rfl rfl
      have h2 := ih ys (by simpa using hl) (fun i b z hb hz => h (i + 1) b z (by simpa using hb) (by simpa using hz))
      omega
theorem mapM_get {α β : Type} {f : α → Option β} : ∀ {l : List α} {r : List β}, l.mapM f = some r → ∀ (i : Nat) (x : α), l[i]? = some x → f x = r[i]? := by
  intro l
  induction l with
  | nil => intro r _ i x h; simp at h
  | cons y l ih =>
    intro r h i x hx
    simp only [List.mapM_cons, Option.bind_eq_bind, Option.bind_eq_some_iff, Option.pure_def, Option.some.injEq] at h
    obtain ⟨z, h1, r', h2, rfl⟩ := h
    cases i with
    | zero => simp at hx; subst hx; simpa using h1
    | succ i => simp at hx; simpa using ih h2 i x hx
section
variable {H : Type} {enc : TypeId × Value → H} {W : World} {base : Nat} {sp : Nat → Bool} {held : Bool}
theorem cells_get {a : Addr} {n : Nat} {cs : List Value} (h : W.cells? base a n = some cs) (hl : cs.length ≤ n) : ∀ i u, cs[i]? = some u → W.cell? (a.add i) = some u := by
  intro i u hu
  unfold World.cells? at h
  split at h
  · have hi := (List.getElem?_eq_some_iff.1 hu).1
    have := mapM_get h i i (by rw [List.getElem?_range]; omega)
    rw [this, hu]
  · cases h
theorem one_le (d : DataW H) : 1 ≤ Rows.uptoBulk d := by
  cases d with
  | lit l => cases l <;> simp [Rows.uptoBulk]
  | nil => simp [Rows.uptoBulk]
  | ptr d => simp [Rows.uptoBulk]
  | slice elems spare => simp [Rows.uptoBulk]
  | agg parts => simp [Rows.uptoBulk]
  | iface t d => simp [Rows.uptoBulk]
  | map entries => simp [Rows.uptoBulk]
  | held h => simp [Rows.uptoBulk]
theorem sum_one {α : Type} (l : List α) : (l.map fun _ => 1).sum = l.length := by
  induction l with
  | nil => rfl
  | cons a l ih => simp only [List.map_cons, List.sum_cons, ih, List.length_cons]; omega
end
end Go.Proofs.Ytiiolhnpnlmkjaa.Tree
namespace Go.Proofs.Ytiiolhnpnlmkjaa.Tree
open Go.RowKit Go.Proofs.YtiiolhnpnlmkjaaW.PrintWords Go.Proofs.YtiiolhnpnlmkjaaW.PrintLast Go.Proofs.YtiiolhnpnlmkjaaW.PrintMore Go.Proofs.Ytiiolhnpnlmkjaa.PMk
theorem cellsU64 : Try.prog.cellsOf 63 = 1 := by kernel_rfl
theorem cellsU8 : Try.prog.cellsOf 5 = 1 := by kernel_rfl
theorem cellsWn : Try.prog.cellsOf 86 = 3 := by kernel_rfl
theorem list3w {α : Type} : ∀ {l : List α}, l.length = 3 → ∃ a b c, l = [a, b, c]
  | [a, b, c], _ => ⟨a, b, c, rfl⟩
section
variable {H : Type} {enc : TypeId × Value → H} {W : World} {base : Nat} {sp : Nat → Bool} {held : Bool}
theorem open_rowP {α : Type} (P : α → Prop) (d : Kd α) (wt : α → Nat) {t e : TypeId} (ht : Try.prog.underlying t = some (.slice e)) (hs : Try.prog.cellsOf e = d.sz) {n : Nat} {cs : List Value} {x : DataW H × List MemPlace}
    (hE : ∀ m cs y, m < n → DataW.trod enc Try.prog W base sp held m e cs = some y → ∃ a, d.K W a cs ∧ wt a ≤ Rows.uptoBulk y.1 ∧ P a)
    (h : DataW.trod enc Try.prog W base sp held n t cs = some x) : ∃ A c xs, cs = [.slice A xs.length c] ∧ xs.length ≤ c ∧ d.C W A xs.length xs ∧ (xs.map wt).sum + 1 ≤ Rows.uptoBulk x.1 ∧ ∀ a ∈ xs, P a := by
  rcases DataW.trod_slice ht h with ⟨rfl, rfl⟩ | ⟨a, len, cap, elems, rest, m, rfl, rfl, rfl, _, hlc, hcm, hel, hget, _, _⟩
  · exact ⟨none, 0, [], rfl, Nat.le_refl _, (Kd.R_reads' (Kd.R_nil d 0 W 0 (fun _ => True))).2.2, by simp [Rows.uptoBulk], by simp⟩
  · obtain ⟨xs, hl, hx⟩ := exists_list (fun i p => ∃ cs y, W.cells? base (a.add (i * d.sz)) d.sz = some cs ∧ elems[i]? = some y ∧ d.K W p cs ∧ wt p ≤ Rows.uptoBulk y.1 ∧ P p) len (fun i hi => by
      have h1 := hget i hi
      rw [hs, List.getElem?_eq_getElem (by omega)] at h1
      obtain ⟨c, h2, h3⟩ := Option.bind_eq_some_iff.1 h1
      obtain ⟨p, h4, h5⟩ := hE m c _ (by omega) h3
      exact ⟨p, c, _, h2, List.getElem?_eq_getElem (by omega), h4, h5⟩)
    refine ⟨some a, cap, xs, by rw [hl], by omega, ?_, ?_, ?_⟩
    · refine ⟨rfl, by have : maxLen ≤ 9223372036854775807 := by decide
                      omega, fun _ => ⟨a, rfl, fun j p hj => ?_⟩⟩
      obtain ⟨c, y, h1, _, h3, _⟩ := hx j p hj
      have hcl := d.K_len h3
      refine ⟨c, hcl, h3, fun i u hu => ?_⟩
      have := cells_get h1 (by omega) i u hu
      rw [Addr.add_add] at this
      exact this
    · have := sum_le wt xs (elems.map (·.1)) (by simp [hl, hel]) (fun i p y hp hy => by
        obtain ⟨c, z, _, h2, _, h4, _⟩ := hx i p hp
        rw [List.getElem?_map, h2] at hy
        cases hy; exact h4)
      simp only [Rows.uptoBulk]
      omega
    · intro p hp
      obtain ⟨i, hi, rfl⟩ := List.mem_iff_getElem.1 hp
      obtain ⟨c, z, _, _, _, _, h4⟩ := hx i _ (List.getElem?_eq_getElem hi)
      exact h4
theorem open_u64 {n : Nat} {cs : List Value} {y : DataW H × List MemPlace} (h : DataW.trod enc Try.prog W base sp held n 63 cs = some y) : ∃ i : Int, (Kd.int .u64).K W i cs ∧ 1 ≤ Rows.uptoBulk y.1 ∧ 0 ≤ i ∧ i < 18446744073709551616 := by
  obtain ⟨a, ea, _, hw⟩ := DataW.trod_int Try.underlying63 h
  have := bounds_u64 hw
  exact ⟨a, ea, one_le _, by omega, by omega⟩
theorem open_u8 {n : Nat} {cs : List Value} {y : DataW H × List MemPlace} (h : DataW.trod enc Try.prog W base sp held n 5 cs = some y) : ∃ i : Int, (Kd.int .u8).K W i cs ∧ 1 ≤ Rows.uptoBulk y.1 ∧ 0 ≤ i ∧ i < 256 := by
  obtain ⟨a, ea, _, hw⟩ := DataW.trod_int Try.underlying5 h
  have := bounds_u8 hw
  exact ⟨a, ea, one_le _, by omega, by omega⟩
def wnW (x : Wn) : Nat := 1 + x.f2.length
set_option maxRecDepth 100000 in
theorem open_wn {n : Nat} {cs : List Value} {y : DataW H × List MemPlace} (h : DataW.trod enc Try.prog W base sp held n 86 cs = some y) : ∃ x : Wn, kWn.K W x cs ∧ wnW x ≤ Rows.uptoBulk y.1 ∧ ∀ z ∈ x.f2, 0 ≤ z ∧ z < 18446744073709551616 := by
  obtain ⟨xs, m, rfl, rfl, hl, hx, hf⟩ := DataW.trod_struct Try.underlying86 h
  rw [cellsWn] at hl
  obtain ⟨u0, u1, u2, rfl⟩ := list3w hl
  have h0 := hf 0 _ rfl
  have h1 := hf 1 _ rfl
  have h2 := hf 2 _ rfl
  obtain ⟨y0, y1, y2, rfl⟩ := list3w (show xs.length = 3 from hx)
  obtain ⟨k, ek, _⟩ := DataW.trod_int Try.underlying3 (show DataW.trod enc Try.prog W base sp held m 3 [u0] = some y0 from h0)
  cases ek
  obtain ⟨s, es, _⟩ := DataW.trod_int Try.underlying3 (show DataW.trod enc Try.prog W base sp held m 3 [u1] = some y1 from h1)
  cases es
  obtain ⟨A2, c2, l, e2, l2, r2, b2, p2⟩ := open_rowP (fun i : Int => 0 ≤ i ∧ i < 18446744073709551616) (Kd.int .u64) (fun _ => 1) (t := 84) (e := 63) Try.underlying84 cellsU64 (fun m' cs y _ h => open_u64 h) (show DataW.trod enc Try.prog W base sp held m 84 [u2] = some y2 from h2)
  cases e2
  rw [sum_one] at b2
  refine ⟨⟨k, s, l⟩, kWn_mk W ⟨k, s, l⟩ l2 r2, ?_, p2⟩
  unfold wnW
  simp only [List.map_cons, List.map_nil, Rows.uptoBulk, Rows.uptoBulkAll]
  omega
theorem sum_wn (l : List Wn) : l.length ≤ (l.map wnW).sum ∧ ∀ x ∈ l, x.f2.length ≤ (l.map wnW).sum := by
  induction l with
  | nil => simp
  | cons a l ih =>
    simp only [List.map_cons, List.sum_cons, List.length_cons]
    have ha : wnW a = 1 + a.f2.length := rfl
    refine ⟨by omega, fun x hx => ?_⟩
    rcases List.mem_cons.1 hx with rfl | hx
    · omega
    · have := ih.2 x hx
      omega
end
end Go.Proofs.Ytiiolhnpnlmkjaa.Tree
namespace Go.Proofs.Ytiiolhnpnlmkjaa.wkbOneForm
open Go.ChangeShapes Go.WideShapes Go.ChangeAt Go.RowKit Go.Proofs.Ytiiolhnpnlmkjaa.Tree
theorem own : ownKnob Try.prog.godebug = none := by kernel_rfl
theorem laidOut : laidOutB Try.prog = true := by kernel_rfl
set_option maxRecDepth 100000 in
set_option maxHeartbeats 4000000 in
theorem contract (H : Type) (enc : TypeId × Value → H) (W : World) (args : Array Value) (ds gs : List (DataW H)) (before : List MemPlace) (b0 : Nat) (hval : ∀ (j : Nat) t v, Try.f3.params[j]? = some t → args[j]? = some v → Value.okWide Try.prog W .any b0 t v)
    (hW : DataW.Whole enc Try.prog Try.f3.params.toList Rows.wkbOneFormSpec.vars false W args.toList ds gs before) (hk : Rows.uptoSmall H (ds ++ gs) = true) :
    Calls Try.prog 3 args W fun e W' => ∃ v, e = .returned v ∧ Rows.wkbOneFormSpec.post enc Try.prog Try.f3 false true false false W args v W' := by
  have hW' := hW
  obtain ⟨p, q, hA0, hV, rfl, hfz, hnd⟩ := hW
  have hA : DataW.TrodAll enc Try.prog W 0 (fun _ => true) true Try.f3.params.toList args.toList ds p := hA0
  rw [Try.params3] at hA
  obtain ⟨v0, vs0, d0, ds0, p0, q0, hargs, rfl, rfl, h0, r0⟩ := trodAll_cons hA
  obtain ⟨v1, vs1, d1, ds1, p1, q1, rfl, rfl, rfl, h1, r1⟩ := trodAll_cons r0
  obtain ⟨rfl, rfl, rfl⟩ := trodAll_nil r1
  obtain rfl : args = #[v0, v1] := by cases args; simp_all
  obtain ⟨rfl, rfl⟩ := trodVars_none hV
  have k0 := h0
  obtain ⟨fuel0, hf0⟩ := h0
  obtain ⟨A0, c0, l0, e0, n0, s0, hb0, hP0⟩ := open_rowP (fun x : Go.Proofs.Ytiiolhnpnlmkjaa.PMk.Wn => ∀ z ∈ x.f2, 0 ≤ z ∧ z < 18446744073709551616) Go.Proofs.Ytiiolhnpnlmkjaa.PMk.kWn wnW (t := 22) (e := 86) Try.underlying22 cellsWn (fun m' cs y _ h => open_wn h) hf0
  obtain ⟨a0_, len_, cap_, rfl⟩ := okWide_slice Try.underlying22 (hval 0 22 v0 (by rw [Try.params3]; rfl) rfl)
  obtain ⟨rfl, rfl, rfl⟩ : A0 = a0_ ∧ l0.length = len_ ∧ c0 = cap_ := by
    have e9 : [Value.slice a0_ len_ cap_] = [Value.slice A0 l0.length c0] := e0
    cases e9
    exact ⟨rfl, rfl, rfl⟩
  have lt0 : ∀ x ∈ p0, x.block < W.heap.size := by obtain ⟨m, hm⟩ := k0; exact DataW.trod_lt m _ _ _ hm
  have k1 := h1
  obtain ⟨fuel1, hf1⟩ := h1
  obtain ⟨A1, c1, l1, e1, n1, s1, hb1, hP1⟩ := open_rowP (fun x : Int => 0 ≤ x ∧ x < 256) (Go.Proofs.YtiiolhnpnlmkjaaW.PrintWords.Kd.int .u8) (fun _ => 1) (t := 23) (e := 5) Try.underlying23 cellsU8 (fun m' cs y _ h => open_u8 h) hf1
  rw [sum_one] at hb1
  obtain ⟨a0_, len_, cap_, rfl⟩ := okWide_slice Try.underlying23 (hval 1 23 v1 (by rw [Try.params3]; rfl) rfl)
  obtain ⟨rfl, rfl, rfl⟩ : A1 = a0_ ∧ l1.length = len_ ∧ c1 = cap_ := by
    have e9 : [Value.slice a0_ len_ cap_] = [Value.slice A1 l1.length c1] := e1
    cases e9
    exact ⟨rfl, rfl, rfl⟩
  have lt1 : ∀ x ∈ p1, x.block < W.heap.size := by obtain ⟨m, hm⟩ := k1; exact DataW.trod_lt m _ _ _ hm
  have hsum : Rows.uptoBulkAll ([d0, d1] ++ []) ≤ 1048576 := of_decide_eq_true hk
  simp only [List.append_nil, Rows.uptoBulkAll] at hsum
  have hbk0 : (l0.map wnW).sum ≤ 1048576 := by
    have hb' : (l0.map wnW).sum + 1 ≤ Rows.uptoBulk d0 := hb0
    omega
  have hbk1 : l1.length ≤ 1048576 := by
    have hb' : l1.length + 1 ≤ Rows.uptoBulk d1 := hb1
    omega
  clear hA0
  refine (one_calls A0 c0 l0 A1 c1 l1 W s0 (by have := (sum_wn l0).1; omega) (fun x hx => by have := (sum_wn l0).2 x hx; omega) hP0 s1 n1 (fun x hx => hP1 x hx)).mono fun e W' ⟨he, bel⟩ => ?_
  subst he
  exact ⟨_, rfl, _, _, _, [], _, [], hW', trodAll_mk1 (shut_bool Try.underlying4 _), (trodAll_cons_mk (Below.trod laidOut (by kernel_rfl) (of_decide_eq_true (by kernel_rfl)) k0 bel lt0) (trodAll_cons_mk (Below.trod laidOut (by kernel_rfl) (of_decide_eq_true (by kernel_rfl)) k1 bel lt1) trodAll_mk0)), rfl, bel.frame _, fun h => by cases h⟩
set_option maxRecDepth 100000 in
theorem lifted (os : Os) (started : os.Started) (H : Type) (enc : TypeId × Value → H) (F : Stop.Interp) :
    ReturnsInHanded {} Try.checked os 3 .any ((Rows.OpenSpec.upto Rows.wkbOneFormSpec).pre6 enc Try.prog Try.f3 Rows.wkbOneFormUptoRow.domain false) (((Rows.OpenSpec.upto Rows.wkbOneFormSpec).at F).post enc Try.prog Try.f3 false true false false) := by
  refine returnsInHanded_of_cond (C := Try.checked) (s := Rows.OpenSpec.upto Rows.wkbOneFormSpec) (k := Rows.uptoSmall) rfl own started (by kernel_rfl) Try.func3
    (OpenSpec.witness (enc := enc) (C := Try.checked) (s := Rows.OpenSpec.upto Rows.wkbOneFormSpec) (k := Rows.uptoSmall) rfl false ⟨#[], #[.slice none 0 0, .slice none 0 0], []⟩ 8 (by kernel_rfl) (by kernel_rfl) (by kernel_rfl)
      (x := ([.nil, .nil], [], [])) (by kernel_rfl) rfl (by kernel_rfl)) ?_
  intro W base args ds gs before hval hW _ hk _
  exact contract H enc W args ds gs before base hval hW hk
theorem said : Rows.WkbOneFormUptoSaid :=
  OpenClaim.holds_of_cond 3 Try.f3 rfl rfl rfl rfl rfl rfl rfl ⟨rfl, rfl, rfl, rfl, rfl⟩ rfl rfl rfl rfl rfl (by kernel_rfl) Try.func3 (by kernel_rfl)
    (of_decide_eq_true (by kernel_rfl)) (by unfold Func.isWrapper; first | (rw [if_pos (by decide +kernel)]; kernel_rfl) | (rw [if_neg (by decide +kernel)]; exact ⟨rfl, rfl⟩))
    (fun os started H enc _ F => lifted os started H enc F)
end Go.Proofs.Ytiiolhnpnlmkjaa.wkbOneForm
namespace Go.Proofs.Ytiiolhnpnlmkjaa
theorem wkbOneForm_holds : Rows.WkbOneFormUptoSaid := wkbOneForm.said
end Go.Proofs.Ytiiolhnpnlmkjaa
