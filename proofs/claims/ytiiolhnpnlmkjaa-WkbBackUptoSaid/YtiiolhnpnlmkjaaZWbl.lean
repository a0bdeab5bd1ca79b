/- Texts of this claim laid one behind the other (TWAlive; TLawWBack; TOpen; TOpenW; TRowWBack): what each proves stands at its own names; the last one is the claim's. No conditions but those told. -/
import Derived.Test.YtiiolhnpnlmkjaaZWbk
import Derived.Test.YtiiolhnpnlmkjaaRows
import Derived.ChangeArms
import Derived.ChangeShapes
import Derived.WalkKit
import Derived.ProofKit
import Derived.OpenShut
import Derived.JoinedCond
import Derived.Carry
namespace Go.Proofs.Ytiiolhnpnlmkjaa.Tree
open Go.RowKit Go.Proofs.Ytiiolhnpnlmkjaa.PWkbPrints Go.Proofs.YtiiolhnpnlmkjaaW.PrintWords Go.Proofs.YtiiolhnpnlmkjaaW.PrintLast Go.Proofs.YtiiolhnpnlmkjaaW.PrintMore
attribute [local go_sem] Oper.semAt_some max2_int max_two min2_int min_two
def gA : Ge := ⟨1, [⟨4607182418800017408, 4611686018427387904⟩], [], []⟩
def bA : List Int := [1, 1, 0, 0, 0, 0, 0, 0, 0, 0, 0, 240, 63, 0, 0, 0, 0, 0, 0, 0, 64]
def sA : ByteArray := ⟨#[48, 49, 48, 49, 48, 48, 48, 48, 48, 48, 48, 48, 48, 48, 48, 48, 48, 48, 48, 48, 48, 48, 102, 48, 51, 102, 48, 48, 48, 48, 48, 48, 48, 48, 48, 48, 48, 48, 48, 48, 52, 48]⟩
theorem gA_check : checkR gA = none := by kernel_rfl
theorem gA_bytes : geoB [true] gA 0 = bA := by kernel_rfl
theorem gA_parsed : parsedR bA 1 21 = .ok (gA, [true]) := by kernel_rfl
theorem gA_hex : PMk.octet_Hex.f 30 bA = some sA := by kernel_rfl
set_option maxRecDepth 100000 in
set_option maxHeartbeats 16000000 in
theorem alive_calls (w : World) : Calls Try.prog 6 #[] w fun e w' => e = .returned (.bool true) ∧ Below w.heap.size w w' := by
  have hu := Try.underlying28
  go_enter Try.func6, Try.ntmps6
  go_upto_region 2 with fail
  obtain ⟨gl, hgl⟩ : ∃ y, y = w.heap.size := ⟨_, rfl⟩
  obtain ⟨W1, hW1⟩ : ∃ y, y = (w.alloc (.cells #[.int .u64 4607182418800017408, .int .u64 4611686018427387904] 65)).alloc (.cells #[.int .i64 1, .slice (some ⟨w.heap.size, 0, none⟩) 1 1, .slice none 0 0, .slice none 0 0] 28) := ⟨_, rfl⟩
  rw [← hW1, ← hgl]
  have hb1 : Below w.heap.size w W1 := by rw [hW1]; exact below_alloc (below_alloc (Below.refl _ _) _) _
  have kl : W1.heap[gl]? = some (.cells #[.int .u64 4607182418800017408, .int .u64 4611686018427387904] 65 (0, 0)) := by rw [hW1, hgl]; exact blk_alloc (World.alloc_heap_new _ _) _
  have kg : W1.heap[gl + 1]? = some (.cells #[.int .i64 1, .slice (some ⟨gl, 0, none⟩) 1 1, .slice none 0 0, .slice none 0 0] 28 (0, 0)) := by
    rw [hW1, hgl]
    have h9 := World.alloc_heap_new (w.alloc (.cells #[.int .u64 4607182418800017408, .int .u64 4611686018427387904] 65)) (.cells #[.int .i64 1, .slice (some ⟨w.heap.size, 0, none⟩) 1 1, .slice none 0 0, .slice none 0 0] 28)
    simpa using h9
  have hIG : IsG W1 (.agg #[.int .i64 1, .slice (some ⟨gl, 0, none⟩) 1 1, .slice none 0 0, .slice none 0 0]) gA := ⟨_, 1, none, 0, none, 0, rfl, Nat.le_refl _, lit_pt (q := ⟨4607182418800017408, 4611686018427387904⟩) kl, Nat.le_refl _, Kd.C_nil _ _, Nat.le_refl _, Kd.C_nil _ _⟩
  have H1 := Aside0.mk (And.intro (And.intro hb1 kg) hIG)
  have z0_ : W1.cell? ⟨gl + 1, 0, none⟩ = some (.int .i64 1) := (blk_cell kg 0).trans rfl
  have z1_ : W1.cell? ⟨gl + 1, 1, none⟩ = some (.slice (some ⟨gl, 0, none⟩) 1 1) := (blk_cell kg 1).trans rfl
  have z2_ : W1.cell? ⟨gl + 1, 2, none⟩ = some (.slice none 0 0) := (blk_cell kg 2).trans rfl
  have z3_ : W1.cell? ⟨gl + 1, 3, none⟩ = some (.slice none 0 0) := (blk_cell kg 3).trans rfl
  clear hW1 hgl hb1 kl kg hIG
  go_wp2_with fail
  refine (print_calls _ gA true W1 H1.out.2 (by decide)).mono ?_
  rintro e W2 ⟨u, er, rfl, hR, hE, hb2⟩
  rw [mixedB, if_pos gA_check, gA_bytes] at hR
  rw [gA_check] at hE
  obtain rfl : er = .nilIface := hE
  obtain ⟨A, c, e2⟩ := Kd.R_slice hR
  have hlA : bA.length = 21 := rfl
  rw [hlA] at e2
  subst e2
  have H2 := Aside0.mk (And.intro (And.intro (below_step H1.out.1.1 hb2) (blk_below H1.out.1.2 hb2)) (And.intro (H1.out.2.below hb2) (Kd.R_reads' hR).2))
  clear z0_ z1_ z2_ z3_ hb2 hR H1
  go_wp2_with fail
  refine (parse_calls A c bA 1 21 W2 H2.out.2.2.2 H2.out.2.2.1 (by decide)).mono ?_
  rintro e W3 ⟨uh, eh, rfl, hb3, -, hO⟩
  obtain ⟨rfl, hcp⟩ := hO _ gA_parsed
  have hig := hcp.isG
  have H3 := Aside0.mk (And.intro (And.intro (below_step H2.out.1.1 hb3) (blk_below H2.out.1.2 hb3)) (And.intro (And.intro (H2.out.2.1.below hb3) (And.intro H2.out.2.2.1 (Kd.C_below H2.out.2.2.2 hb3))) hig))
  obtain ⟨k, A1, n1, c1, A2, n2, c2, A3, n3, c3, e3⟩ := hcp.agg
  subst e3
  clear hb3 hO hcp H2 hig
  go_upto_region 4 with fail
  obtain ⟨W4, hW4⟩ : ∃ y, y = W3.alloc (.cells #[.int .i64 k, .slice A1 n1 c1, .slice A2 n2 c2, .slice A3 n3 c3] 28) := ⟨_, rfl⟩
  obtain ⟨gh, hgh⟩ : ∃ y, y = W3.heap.size := ⟨_, rfl⟩
  rw [← hW4, ← hgh]
  have hb4 : Below W3.heap.size W3 W4 := by rw [hW4]; exact below_alloc (Below.refl _ _) _
  have kh : W4.heap[gh]? = some (.cells #[.int .i64 k, .slice A1 n1 c1, .slice A2 n2 c2, .slice A3 n3 c3] 28 (0, 0)) := by rw [hW4, hgh]; exact World.alloc_heap_new _ _
  have kg := blk_below H3.out.1.2 hb4
  have H4 := Aside0.mk (And.intro (And.intro (below_step H3.out.1.1 hb4) (And.intro kg kh)) (And.intro (And.intro (H3.out.2.1.1.below hb4) (And.intro H3.out.2.1.2.1 (Kd.C_below H3.out.2.1.2.2 hb4))) (H3.out.2.2.below hb4)))
  clear hW4 hgh hb4 kg kh H3
  go_wp2_with fail
  refine (PMk.octet_Hex.calls 30 A c bA sA W4 H4.out.2.1.2.2 H4.out.2.1.2.1 gA_hex).mono ?_
  rintro e W5 ⟨rfl, hb5⟩
  have H5 := Aside0.mk (And.intro (below_step H4.out.1.1 hb5) (And.intro (H4.out.2.1.1.below hb5) (H4.out.2.2.below hb5)))
  have kg := blk_below H4.out.1.2.1 hb5
  have kh := blk_below H4.out.1.2.2 hb5
  have z0_ : W5.cell? ⟨gl + 1, 0, none⟩ = some (.int .i64 1) := (blk_cell kg 0).trans rfl
  have z1_ : W5.cell? ⟨gl + 1, 1, none⟩ = some (.slice (some ⟨gl, 0, none⟩) 1 1) := (blk_cell kg 1).trans rfl
  have z2_ : W5.cell? ⟨gl + 1, 2, none⟩ = some (.slice none 0 0) := (blk_cell kg 2).trans rfl
  have z3_ : W5.cell? ⟨gl + 1, 3, none⟩ = some (.slice none 0 0) := (blk_cell kg 3).trans rfl
  have y0_ : W5.cell? ⟨gh, 0, none⟩ = some (.int .i64 k) := (blk_cell kh 0).trans rfl
  have y1_ : W5.cell? ⟨gh, 1, none⟩ = some (.slice A1 n1 c1) := (blk_cell kh 1).trans rfl
  have y2_ : W5.cell? ⟨gh, 2, none⟩ = some (.slice A2 n2 c2) := (blk_cell kh 2).trans rfl
  have y3_ : W5.cell? ⟨gh, 3, none⟩ = some (.slice A3 n3 c3) := (blk_cell kh 3).trans rfl
  have hstr : (sA.toList == [48, 49, 48, 49, 48, 48, 48, 48, 48, 48, 48, 48, 48, 48, 48, 48, 48, 48, 48, 48, 48, 48, 102, 48, 51, 102, 48, 48, 48, 48, 48, 48, 48, 48, 48, 48, 48, 48, 48, 48, 52, 48]) = true := by kernel_rfl
  clear hb5 H4 kg kh
  go_wp2_with fail
  refine (equal_calls gA.bulk _ _ gA gA W5 H5.out.2.1 H5.out.2.2 (Nat.le_refl _) (by decide) (by decide)).mono ?_
  rintro e W6 ⟨rfl, hb6⟩
  rw [eqG_true rfl]
  have HB6 := Aside0.mk (below_step H5.out.1 hb6)
  clear hb6
  go_wp2_with fail
  go_ret
  exact ⟨rfl, HB6.out⟩
end Go.Proofs.Ytiiolhnpnlmkjaa.Tree
namespace Go.Proofs.Ytiiolhnpnlmkjaa.Tree
open Go.RowKit Go.Proofs.Ytiiolhnpnlmkjaa.PWkbPrints Go.Proofs.YtiiolhnpnlmkjaaW.PrintWords Go.Proofs.YtiiolhnpnlmkjaaW.PrintLast Go.Proofs.YtiiolhnpnlmkjaaW.PrintMore Go.Proofs.Ytiiolhnpnlmkjaa.PMk
attribute [local go_sem] Oper.semAt_some max2_int max_two min2_int min_two
set_option maxRecDepth 100000 in
set_option maxHeartbeats 32000000 in
theorem wback_calls (A : Option Addr) (c : Nat) (l : List Wn) (A2 : Option Addr) (c2 : Nat) (X : List Bool) (W : World) (hC : Kd.C kWn W A l.length l) (hl : l.length ≤ 1048576) (hxl : ∀ x ∈ l, x.f2.length ≤ 1048576) (hxy : Xy l) (hCX : Kd.bool.C W A2 X.length X) (hcX : X.length ≤ c2) (hXl : X.length ≤ 1048576) :
    Calls Try.prog 4 #[.slice A l.length c, .slice A2 X.length c2] W fun e W' => e = .returned (.bool true) ∧ Below W.heap.size W W' := by
  have hu := Try.underlying28
  have hmx : Try.prog.follows .mixedOrders = true := by kernel_rfl
  have HT := Aside0.mk (treeM_ok hxy)
  obtain ⟨g, hg⟩ : ∃ y, y = treeM l := ⟨_, rfl⟩
  have HGE := Aside0.mk hg
  rw [← hg] at HT
  have HB := Aside0.mk (Below.refl W.heap.size W)
  have HC := Aside0.mk hC
  have RX := Aside0.mk (And.intro hcX hCX)
  clear hg hC hCX hcX
  go_enter Try.func4, Try.ntmps4
  go_wp2_with fail
  refine (grown_calls A c l W HC.out hl hxl hxy).mono ?_
  rintro e W1 ⟨u, rfl, hcp, hb_⟩
  rw [← HGE.out] at hcp
  obtain ⟨G1, g1_, G2, g2_, G3, g3_, rfl, hig⟩ := hcp.isG
  have IG := Aside0.mk (show IsG W1 (.agg #[.int .i64 g.f0, .slice G1 g.f1.length g1_, .slice G2 g.f2.length g2_, .slice G3 g.f3.length g3_]) g from ⟨G1, g1_, G2, g2_, G3, g3_, rfl, hig⟩)
  clear hcp hig HC
  replace HB := Aside0.mk (below_step HB.out hb_)
  replace RX := Aside0.mk (And.intro RX.out.1 (Kd.C_below RX.out.2 hb_))
  clear hb_
  go_upto_region 2 with fail
  obtain ⟨gl, hgl_⟩ : ∃ x, x = W1.heap.size := ⟨_, rfl⟩
  obtain ⟨W2, hW2_⟩ : ∃ x, x = W1.alloc (.cells #[.int .i64 g.f0, .slice G1 g.f1.length g1_, .slice G2 g.f2.length g2_, .slice G3 g.f3.length g3_] 28) := ⟨_, rfl⟩
  rw [← hW2_, ← hgl_]
  have KG := Aside0.mk (show W2.heap[gl]? = some (.cells #[.int .i64 g.f0, .slice G1 g.f1.length g1_, .slice G2 g.f2.length g2_, .slice G3 g.f3.length g3_] 28 (0, 0)) by rw [hW2_, hgl_]; exact World.alloc_heap_new _ _)
  have hb_ : Below W1.heap.size W1 W2 := by rw [hW2_]; exact below_alloc (Below.refl _ _) _
  clear hW2_ hgl_
  replace HB := Aside0.mk (below_step HB.out hb_)
  replace RX := Aside0.mk (And.intro RX.out.1 (Kd.C_below RX.out.2 hb_))
  replace IG := Aside0.mk (IG.out.below hb_)
  clear hb_
  have zG0_ : W2.cell? ⟨gl, 0, none⟩ = some (.int .i64 g.f0) := (blk_cell KG.out 0).trans rfl
  have zG1_ : W2.cell? ⟨gl, 1, none⟩ = some (.slice G1 g.f1.length g1_) := (blk_cell KG.out 1).trans rfl
  have zG2_ : W2.cell? ⟨gl, 2, none⟩ = some (.slice G2 g.f2.length g2_) := (blk_cell KG.out 2).trans rfl
  have zG3_ : W2.cell? ⟨gl, 3, none⟩ = some (.slice G3 g.f3.length g3_) := (blk_cell KG.out 3).trans rfl
  go_wp2_with fail
  clear zG0_ zG1_ zG2_ zG3_
  refine (alive_calls W2).mono ?_
  rintro e W3 ⟨rfl, hb_⟩
  replace HB := Aside0.mk (below_step HB.out hb_)
  replace RX := Aside0.mk (And.intro RX.out.1 (Kd.C_below RX.out.2 hb_))
  replace IG := Aside0.mk (IG.out.below hb_)
  replace KG := Aside0.mk (blk_below KG.out hb_)
  clear hb_
  have zG0_ : W3.cell? ⟨gl, 0, none⟩ = some (.int .i64 g.f0) := (blk_cell KG.out 0).trans rfl
  have zG1_ : W3.cell? ⟨gl, 1, none⟩ = some (.slice G1 g.f1.length g1_) := (blk_cell KG.out 1).trans rfl
  have zG2_ : W3.cell? ⟨gl, 2, none⟩ = some (.slice G2 g.f2.length g2_) := (blk_cell KG.out 2).trans rfl
  have zG3_ : W3.cell? ⟨gl, 3, none⟩ = some (.slice G3 g.f3.length g3_) := (blk_cell KG.out 3).trans rfl
  go_wp2_with fail
  clear zG0_ zG1_ zG2_ zG3_
  refine (Size_calls _ g W3 IG.out (by have := HT.out.2.2.1; omega)).mono ?_
  rintro e W4 ⟨er, rfl, hE, hb_⟩
  rw [HT.out.2.2.2] at hE
  obtain rfl : er = .nilIface := hE
  obtain ⟨n, hn⟩ : ∃ z, z = sizedN g := ⟨_, rfl⟩
  rw [← hn]
  have HN := Aside0.mk (show ∀ os : List Bool, (geoB os g 0).length = n from fun os => by rw [hn, sized_eq os g, mixedB, if_pos HT.out.2.2.2])
  clear hn
  replace HB := Aside0.mk (below_step HB.out hb_)
  replace RX := Aside0.mk (And.intro RX.out.1 (Kd.C_below RX.out.2 hb_))
  replace IG := Aside0.mk (IG.out.below hb_)
  replace KG := Aside0.mk (blk_below KG.out hb_)
  clear hb_
  have zG0_ : W4.cell? ⟨gl, 0, none⟩ = some (.int .i64 g.f0) := (blk_cell KG.out 0).trans rfl
  have zG1_ : W4.cell? ⟨gl, 1, none⟩ = some (.slice G1 g.f1.length g1_) := (blk_cell KG.out 1).trans rfl
  have zG2_ : W4.cell? ⟨gl, 2, none⟩ = some (.slice G2 g.f2.length g2_) := (blk_cell KG.out 2).trans rfl
  have zG3_ : W4.cell? ⟨gl, 3, none⟩ = some (.slice G3 g.f3.length g3_) := (blk_cell KG.out 3).trans rfl
  by_cases hbig : 65536 < (n : Int)
  · go_wp2_with fail
    go_ret
    exact ⟨rfl, HB.out⟩
  have hbig' : n ≤ 65536 := by omega
  go_wp2_with fail
  clear zG0_ zG1_ zG2_ zG3_
  refine (count_calls _ g W4 IG.out (by have := HT.out.2.2.1; omega)).mono ?_
  rintro e W5 ⟨rfl, hb_⟩
  obtain ⟨m, hm⟩ : ∃ z, z = cntG g := ⟨_, rfl⟩
  have hm2 := cnt_nodes g 1 0 HT.out.1
  rw [hm2, ← hm]
  have HM := Aside0.mk hm
  have hml : m ≤ 16384 := by have := (geoB_le [] g 0).2; have := HT.out.2.2.1; omega
  clear hm hm2
  replace HB := Aside0.mk (below_step HB.out hb_)
  replace RX := Aside0.mk (And.intro RX.out.1 (Kd.C_below RX.out.2 hb_))
  replace IG := Aside0.mk (IG.out.below hb_)
  replace KG := Aside0.mk (blk_below KG.out hb_)
  clear hb_
  have zG0_ : W5.cell? ⟨gl, 0, none⟩ = some (.int .i64 g.f0) := (blk_cell KG.out 0).trans rfl
  have zG1_ : W5.cell? ⟨gl, 1, none⟩ = some (.slice G1 g.f1.length g1_) := (blk_cell KG.out 1).trans rfl
  have zG2_ : W5.cell? ⟨gl, 2, none⟩ = some (.slice G2 g.f2.length g2_) := (blk_cell KG.out 2).trans rfl
  have zG3_ : W5.cell? ⟨gl, 3, none⟩ = some (.slice G3 g.f3.length g3_) := (blk_cell KG.out 3).trans rfl
  go_wp2_with fail
  clear zG0_ zG1_ zG2_ zG3_
  obtain ⟨q, hq⟩ : ∃ z, z = W5.heap.size := ⟨_, rfl⟩
  obtain ⟨V1, hV1⟩ : ∃ z, z = W5.alloc (.cells #[.bool true] 4) := ⟨_, rfl⟩
  obtain ⟨V2, hV2⟩ : ∃ z, z = V1.alloc (.cells #[.bool false] 4) := ⟨_, rfl⟩
  obtain ⟨V3, hV3⟩ : ∃ z, z = V2.alloc (.cells #[.slice (some ⟨q, 0, none⟩) 1 1, .slice (some ⟨q + 1, 0, none⟩) 1 1, .slice none 0 0, .slice A2 X.length c2] 40) := ⟨_, rfl⟩
  rw [← hq, ← hV1, ← hV2, ← hV3]
  have s1 : V1.heap.size = q + 1 := by rw [hV1, hq]; simp
  have s2 : V2.heap.size = q + 1 + 1 := by rw [hV2]; simp [s1]
  have b1 : Below W5.heap.size W5 V1 := by rw [hV1]; exact below_alloc (Below.refl _ _) _
  have b2 : Below V1.heap.size V1 V2 := by rw [hV2]; exact below_alloc (Below.refl _ _) _
  have b3 : Below V2.heap.size V2 V3 := by rw [hV3]; exact below_alloc (Below.refl _ _) _
  have k1 : V1.heap[q]? = some (.cells #[.bool true] 4 (0, 0)) := by rw [hV1, hq]; exact World.alloc_heap_new _ _
  have k2 : V2.heap[q + 1]? = some (.cells #[.bool false] 4 (0, 0)) := by rw [hV2, ← s1]; exact World.alloc_heap_new _ _
  have k3 : V3.heap[q + 1 + 1]? = some (.cells #[.slice (some ⟨q, 0, none⟩) 1 1, .slice (some ⟨q + 1, 0, none⟩) 1 1, .slice none 0 0, .slice A2 X.length c2] 40 (0, 0)) := by rw [hV3, ← s2]; exact World.alloc_heap_new _ _
  have hb_ := below_step (below_step b1 b2) b3
  have KL := Aside0.mk k3
  have R1 := Aside0.mk (bool_blk1 (blk_below (blk_below k1 b2) b3))
  have R2 := Aside0.mk (bool_blk1 (blk_below k2 b3))
  clear k1 k2 k3 b1 b2 b3 s1 s2 hV1 hV2 hV3 hq
  replace HB := Aside0.mk (below_step HB.out hb_)
  replace RX := Aside0.mk (And.intro RX.out.1 (Kd.C_below RX.out.2 hb_))
  replace IG := Aside0.mk (IG.out.below hb_)
  replace KG := Aside0.mk (blk_below KG.out hb_)
  clear hb_
  obtain ⟨N, hN⟩ : ∃ N, N = 4 := ⟨_, rfl⟩
  have HNN := Aside0.mk hN
  clear hN
  go_loopg [12] N (fun kq i wr => ∃ j : Nat, j + kq = N ∧ i = .int .i64 (j : Int) ∧ Aside0 (Below V3.heap.size V3 wr))
  case atStart => exact ⟨0, by omega, rfl, ⟨Below.refl _ _⟩⟩
  case round =>
    obtain ⟨j, hj, rfl, HF⟩ := hrel
    have HJ := Aside0.mk hj
    clear hj
    cases gk with
    | zero =>
      have hlt : ¬ ((j : Int) < 4) := by have := HJ.out; have := HNN.out; omega
      go_wp2_with fail
      go_ret
      exact ⟨rfl, below_step HB.out HF.out⟩
    | succ kq =>
      have hj4 : j < 4 := by have := HJ.out; have := HNN.out; omega
      have hlt : (j : Int) < 4 := by omega
      obtain ⟨P, c, os, hcell, hRO, hol, hoj⟩ : ∃ (P : Option Addr) (c : Nat) (os : List Bool), V3.cell? ⟨q + 1 + 1, j, none⟩ = some (.slice P os.length c) ∧ (os.length ≤ c ∧ Kd.bool.C V3 P os.length os) ∧ os.length ≤ 1048576 ∧ (j < 2 → os = [(j : Int) == 0]) := by
        rcases (show j = 0 ∨ j = 1 ∨ j = 2 ∨ j = 3 by omega) with rfl | rfl | rfl | rfl
        · exact ⟨some ⟨q, 0, none⟩, 1, [true], (blk_cell KL.out 0).trans rfl, ⟨Nat.le_refl _, R1.out⟩, by simp, fun _ => rfl⟩
        · exact ⟨some ⟨q + 1, 0, none⟩, 1, [false], (blk_cell KL.out 1).trans rfl, ⟨Nat.le_refl _, R2.out⟩, by simp, fun _ => rfl⟩
        · exact ⟨none, 0, [], (blk_cell KL.out 2).trans rfl, ⟨Nat.le_refl _, Kd.C_nil _ _⟩, by simp, fun h => by omega⟩
        · exact ⟨A2, c2, X, (blk_cell KL.out 3).trans rfl, RX.out, hXl, fun h => by omega⟩
      have hz := (HF.out.cell (World.block_lt_of_cell? V3 _ hcell)).trans hcell
      have HZ := Aside0.mk hz
      have RO := Aside0.mk (And.intro hRO.1 (Kd.C_below hRO.2 HF.out))
      have HOJ := Aside0.mk hoj
      have HK0 := Aside0.mk (Below.refl wr.heap.size wr)
      have IH := Aside0.mk (IG.out.below HF.out)
      have KH := Aside0.mk (blk_below KG.out HF.out)
      have HP := Aside0.mk (print_read os g HT.out.1 HT.out.2.1 HT.out.2.2.1 (by rw [HN.out]; exact hbig'))
      clear hcell hRO hoj
      go_upto_region 12 with fail
      clear hz
      refine start_ (n := 11) (S := (fun w' => w'.cell? ⟨gl, 0, none⟩ = some (.int .i64 g.f0) ∧ w'.cell? ⟨gl, 1, none⟩ = some (.slice G1 g.f1.length g1_) ∧ w'.cell? ⟨gl, 2, none⟩ = some (.slice G2 g.f2.length g2_) ∧ w'.cell? ⟨gl, 3, none⟩ = some (.slice G3 g.f3.length g3_) ∧ w'.cell? ⟨q + 1 + 1, j, none⟩ = some (.slice P os.length c) ∧ True)) (ds := []) #[false, false, false, false, false, false, false, false, false, false, false] hmx rfl rfl ⟨(blk_cell (w := wr.drew) KH.out 0).trans rfl, (blk_cell (w := wr.drew) KH.out 1).trans rfl, (blk_cell (w := wr.drew) KH.out 2).trans rfl, (blk_cell (w := wr.drew) KH.out 3).trans rfl, HZ.out, trivial⟩ (fun hHeld0 => ?_)
      replace HK0 := Aside0.mk (below_step HK0.out (below_drew (Below.refl wr.heap.size wr)))
      replace RO := Aside0.mk (And.intro RO.out.1 (Kd.C_below RO.out.2 (below_drew (Below.refl wr.heap.size wr))))
      replace IH := Aside0.mk (IH.out.below (below_drew (Below.refl wr.heap.size wr)))
      replace KH := Aside0.mk (blk_below KH.out (below_drew (Below.refl wr.heap.size wr)))
      replace HZ := Aside0.mk (((below_drew (Below.refl wr.heap.size wr)).cell (World.block_lt_of_cell? _ _ HZ.out)).trans HZ.out)
      generalize wr.drew = W6 at HK0 RO IH KH HZ hHeld0 ⊢
      (refine take_ (i := 0) (N := some 63) (v := ?_) (a' := ?_) #[true, false, false, false, false, false, false, false, false, false, false] rfl rfl (by kernel_rfl) (fun _ _ _ h => h) (Or.inl ⟨by rfl, ?_⟩) hHeld0 ?_ ?_; rotate_left; (focus (intro w'_ hs_; (repeat obtain ⟨_, hs_⟩ := hs_); go_simp; with_reducible rfl)); rotate_left; (focus (simp only [Act.put, List.setIfInBounds_toArray, List.set_cons_zero, List.set_cons_succ]; rfl)))
      (refine pure_ (i := 1) (N := some 64) (v := ?_) (a' := ?_) #[true, true, false, false, false, false, false, false, false, false, false] rfl rfl (by kernel_rfl) (fun _ _ _ h => h) (Or.inl ⟨by rfl, ?_⟩) ?_ ?_; rotate_left; (focus (intro w'_; go_simp; with_reducible rfl)); rotate_left; (focus (simp only [Act.put, List.setIfInBounds_toArray, List.set_cons_zero, List.set_cons_succ]; rfl)))
      (refine pure_ (i := 2) (N := some 65) (v := ?_) (a' := ?_) #[true, true, true, false, false, false, false, false, false, false, false] rfl rfl (by kernel_rfl) (fun _ _ _ h => h) (Or.inl ⟨by rfl, ?_⟩) ?_ ?_; rotate_left; (focus (intro w'_; go_simp; with_reducible rfl)); rotate_left; (focus (simp only [Act.put, List.setIfInBounds_toArray, List.set_cons_zero, List.set_cons_succ]; rfl)))
      (refine pure_ (i := 3) (N := some 66) (v := ?_) (a' := ?_) #[true, true, true, true, false, false, false, false, false, false, false] rfl rfl (by kernel_rfl) (fun _ _ _ h => h) (Or.inl ⟨by rfl, ?_⟩) ?_ ?_; rotate_left; (focus (intro w'_; go_simp; with_reducible rfl)); rotate_left; (focus (simp only [Act.put, List.setIfInBounds_toArray, List.set_cons_zero, List.set_cons_succ]; rfl)))
      (refine take_ (i := 4) (N := some 67) (v := ?_) (a' := ?_) #[true, true, true, true, true, false, false, false, false, false, false] rfl rfl (by kernel_rfl) (fun _ _ _ h => h) (Or.inl ⟨by rfl, ?_⟩) hHeld0 ?_ ?_; rotate_left; (focus (intro w'_ hs_; (repeat obtain ⟨_, hs_⟩ := hs_); go_simp; with_reducible rfl)); rotate_left; (focus (simp only [Act.put, List.setIfInBounds_toArray, List.set_cons_zero, List.set_cons_succ]; rfl)))
      refine one_ (i := 5) (N := some 68) #[true, true, true, true, true, true, false, false, false, false, false] rfl rfl (by kernel_rfl) (by decide) (fun K hK => ?_)
      refine goes_ Try.func11 (by kernel_rfl) rfl #[.agg #[.int .i64 g.f0, .slice G1 g.f1.length g1_, .slice G2 g.f2.length g2_, .slice G3 g.f3.length g3_], .slice P os.length c] (by rfl) rfl rfl (by (try simp only [List.map_toArray, List.map_cons, List.map_nil]); first | done | rfl) ?_
      refine (mixed_calls _ g P c os W6 IH.out RO.out.2 (by have := HT.out.2.2.1; omega) (by omega)).mono ?_
      rintro e W7 ⟨u, er, rfl, hR, hE, hb_⟩
      rw [mixedB, if_pos HT.out.2.2.2] at hR
      rw [HT.out.2.2.2] at hE
      obtain rfl : er = .nilIface := hE
      obtain ⟨b, hbdef⟩ : ∃ y, y = geoB os g 0 := ⟨_, rfl⟩
      rw [← hbdef] at hR
      have HP := Aside0.mk (show parsedR b (depthOf g) b.length = .ok (g, ords os 0 (cntG g)) ∧ parsedR b 256 65536 = .ok (g, ords os 0 (cntG g)) by rw [hbdef]; exact HP.out)
      have hbn : b.length = n := by rw [hbdef]; exact HN.out os
      have HBD := Aside0.mk hbdef
      obtain ⟨D, d, e2_⟩ := Kd.R_slice hR
      subst e2_
      have RB := Aside0.mk (Kd.R_reads' hR).2
      have HBN := Aside0.mk hbn
      rw [hbn] at RB ⊢
      clear hR hbdef hbn
      replace HK0 := Aside0.mk (below_step HK0.out hb_)
      replace RO := Aside0.mk (And.intro RO.out.1 (Kd.C_below RO.out.2 hb_))
      replace IH := Aside0.mk (IH.out.below hb_)
      replace KH := Aside0.mk (blk_below KH.out hb_)
      replace HZ := Aside0.mk ((hb_.cell (World.block_lt_of_cell? _ _ HZ.out)).trans HZ.out)
      clear hb_
      refine ⟨_, rfl, hK.out _ _ ⟨(blk_cell KH.out 0).trans rfl, (blk_cell KH.out 1).trans rfl, (blk_cell KH.out 2).trans rfl, (blk_cell KH.out 3).trans rfl, HZ.out, trivial⟩ (fun hHeld6 => ?_)⟩
      clear hK K hHeld0
      (refine norm_ (a' := ?_) ?_ ?_; rotate_left; focus (show Act.put _ (some 68) _ = _; simp only [Act.put, List.setIfInBounds_toArray, List.set_cons_zero, List.set_cons_succ]; rfl))
      (refine pure_ (i := 6) (N := some 62) (v := ?_) (a' := ?_) #[true, true, true, true, true, true, true, false, false, false, false] rfl rfl (by kernel_rfl) (fun _ _ _ h => h) (Or.inl ⟨by rfl, ?_⟩) ?_ ?_; rotate_left; (focus (intro w'_; go_simp; with_reducible rfl)); rotate_left; (focus (simp only [Act.put, List.setIfInBounds_toArray, List.set_cons_zero, List.set_cons_succ]; rfl)))
      (refine pure_ (i := 7) (N := some 69) (v := ?_) (a' := ?_) #[true, true, true, true, true, true, true, true, false, false, false] rfl rfl (by kernel_rfl) (fun _ _ _ h => h) (Or.inl ⟨by rfl, ?_⟩) ?_ ?_; rotate_left; (focus (intro w'_; go_simp; with_reducible rfl)); rotate_left; (focus (simp only [Act.put, List.setIfInBounds_toArray, List.set_cons_zero, List.set_cons_succ]; rfl)))
      (refine pure_ (i := 8) (N := some 70) (v := ?_) (a' := ?_) #[true, true, true, true, true, true, true, true, true, false, false] rfl rfl (by kernel_rfl) (fun _ _ _ h => h) (Or.inl ⟨by rfl, ?_⟩) ?_ ?_; rotate_left; (focus (intro w'_; go_simp; with_reducible rfl)); rotate_left; (focus (simp only [Act.put, List.setIfInBounds_toArray, List.set_cons_zero, List.set_cons_succ]; rfl)))
      (refine pure_ (i := 9) (N := some 13) (v := ?_) (a' := ?_) #[true, true, true, true, true, true, true, true, true, true, false] rfl rfl (by kernel_rfl) (fun _ _ _ h => h) (Or.inl ⟨by rfl, ?_⟩) ?_ ?_; rotate_left; (focus (intro w'_; go_simp; with_reducible rfl)); rotate_left; (focus (simp only [Act.put, List.setIfInBounds_toArray, List.set_cons_zero, List.set_cons_succ]; rfl)))
      (refine pure_ (i := 10) (N := some 14) (v := ?_) (a' := ?_) #[true, true, true, true, true, true, true, true, true, true, true] rfl rfl (by kernel_rfl) (fun _ _ _ h => h) (Or.inl ⟨by rfl, ?_⟩) ?_ ?_; rotate_left; (focus (intro w'_; go_simp; with_reducible rfl)); rotate_left; (focus (simp only [Act.put, List.setIfInBounds_toArray, List.set_cons_zero, List.set_cons_succ]; rfl)))
      refine done_ (by kernel_rfl) ?_
      clear hHeld6
      have zG0_ : W7.cell? ⟨gl, 0, none⟩ = some (.int .i64 g.f0) := (blk_cell KH.out 0).trans rfl
      have zG1_ : W7.cell? ⟨gl, 1, none⟩ = some (.slice G1 g.f1.length g1_) := (blk_cell KH.out 1).trans rfl
      have zG2_ : W7.cell? ⟨gl, 2, none⟩ = some (.slice G2 g.f2.length g2_) := (blk_cell KH.out 2).trans rfl
      have zG3_ : W7.cell? ⟨gl, 3, none⟩ = some (.slice G3 g.f3.length g3_) := (blk_cell KH.out 3).trans rfl
      have hz := HZ.out
      go_wp2_with fail
      clear zG0_ zG1_ zG2_ zG3_ hz
      refine (depth_calls _ g W7 IH.out (by have := HT.out.2.2.1; omega)).mono ?_
      rintro e W8 ⟨rfl, hb_⟩
      replace HK0 := Aside0.mk (below_step HK0.out hb_)
      replace RO := Aside0.mk (And.intro RO.out.1 (Kd.C_below RO.out.2 hb_))
      replace IH := Aside0.mk (IH.out.below hb_)
      replace KH := Aside0.mk (blk_below KH.out hb_)
      replace HZ := Aside0.mk ((hb_.cell (World.block_lt_of_cell? _ _ HZ.out)).trans HZ.out)
      replace RB := Aside0.mk (And.intro RB.out.1 (Kd.C_below RB.out.2 hb_))
      clear hb_
      have zG0_ : W8.cell? ⟨gl, 0, none⟩ = some (.int .i64 g.f0) := (blk_cell KH.out 0).trans rfl
      have zG1_ : W8.cell? ⟨gl, 1, none⟩ = some (.slice G1 g.f1.length g1_) := (blk_cell KH.out 1).trans rfl
      have zG2_ : W8.cell? ⟨gl, 2, none⟩ = some (.slice G2 g.f2.length g2_) := (blk_cell KH.out 2).trans rfl
      have zG3_ : W8.cell? ⟨gl, 3, none⟩ = some (.slice G3 g.f3.length g3_) := (blk_cell KH.out 3).trans rfl
      have hz := HZ.out
      go_wp2_with fail
      have hpc := parse_ok D d b (depthOf g) b.length W8 g _ (by rw [HBN.out]; exact RB.out.2) (by rw [HBN.out]; exact RB.out.1) (by rw [HBN.out]; omega) HP.out.1
      rw [HBN.out] at hpc
      clear zG0_ zG1_ zG2_ zG3_ hz
      refine (hpc).mono ?_
      rintro e W9 ⟨Y1, y1_, Y2, y2_, Y3, y3_, rfl, hcp, hb_⟩
      have IX := Aside0.mk (CopyOf.isG hcp)
      clear hcp hpc
      replace HK0 := Aside0.mk (below_step HK0.out hb_)
      replace RO := Aside0.mk (And.intro RO.out.1 (Kd.C_below RO.out.2 hb_))
      replace IH := Aside0.mk (IH.out.below hb_)
      replace KH := Aside0.mk (blk_below KH.out hb_)
      replace HZ := Aside0.mk ((hb_.cell (World.block_lt_of_cell? _ _ HZ.out)).trans HZ.out)
      replace RB := Aside0.mk (And.intro RB.out.1 (Kd.C_below RB.out.2 hb_))
      clear hb_
      have zG0_ : W9.cell? ⟨gl, 0, none⟩ = some (.int .i64 g.f0) := (blk_cell KH.out 0).trans rfl
      have zG1_ : W9.cell? ⟨gl, 1, none⟩ = some (.slice G1 g.f1.length g1_) := (blk_cell KH.out 1).trans rfl
      have zG2_ : W9.cell? ⟨gl, 2, none⟩ = some (.slice G2 g.f2.length g2_) := (blk_cell KH.out 2).trans rfl
      have zG3_ : W9.cell? ⟨gl, 3, none⟩ = some (.slice G3 g.f3.length g3_) := (blk_cell KH.out 3).trans rfl
      have hz := HZ.out
      go_upto_region 14 with fail
      obtain ⟨gx, hgx_⟩ : ∃ x, x = W9.heap.size := ⟨_, rfl⟩
      obtain ⟨W10, hW10_⟩ : ∃ x, x = W9.alloc (.cells #[.int .i64 g.f0, .slice Y1 g.f1.length y1_, .slice Y2 g.f2.length y2_, .slice Y3 g.f3.length y3_] 28) := ⟨_, rfl⟩
      rw [← hW10_, ← hgx_]
      have KX := Aside0.mk (show W10.heap[gx]? = some (.cells #[.int .i64 g.f0, .slice Y1 g.f1.length y1_, .slice Y2 g.f2.length y2_, .slice Y3 g.f3.length y3_] 28 (0, 0)) by rw [hW10_, hgx_]; exact World.alloc_heap_new _ _)
      have hb_ : Below W9.heap.size W9 W10 := by rw [hW10_]; exact below_alloc (Below.refl _ _) _
      clear hW10_ hgx_
      replace HK0 := Aside0.mk (below_step HK0.out hb_)
      replace RO := Aside0.mk (And.intro RO.out.1 (Kd.C_below RO.out.2 hb_))
      replace IH := Aside0.mk (IH.out.below hb_)
      replace KH := Aside0.mk (blk_below KH.out hb_)
      replace HZ := Aside0.mk ((hb_.cell (World.block_lt_of_cell? _ _ HZ.out)).trans HZ.out)
      replace RB := Aside0.mk (And.intro RB.out.1 (Kd.C_below RB.out.2 hb_))
      replace IX := Aside0.mk (IX.out.below hb_)
      clear hb_
      clear zG0_ zG1_ zG2_ zG3_ hz
      have zG0_ : W10.cell? ⟨gl, 0, none⟩ = some (.int .i64 g.f0) := (blk_cell KH.out 0).trans rfl
      have zG1_ : W10.cell? ⟨gl, 1, none⟩ = some (.slice G1 g.f1.length g1_) := (blk_cell KH.out 1).trans rfl
      have zG2_ : W10.cell? ⟨gl, 2, none⟩ = some (.slice G2 g.f2.length g2_) := (blk_cell KH.out 2).trans rfl
      have zG3_ : W10.cell? ⟨gl, 3, none⟩ = some (.slice G3 g.f3.length g3_) := (blk_cell KH.out 3).trans rfl
      have zX0_ : W10.cell? ⟨gx, 0, none⟩ = some (.int .i64 g.f0) := (blk_cell KX.out 0).trans rfl
      have zX1_ : W10.cell? ⟨gx, 1, none⟩ = some (.slice Y1 g.f1.length y1_) := (blk_cell KX.out 1).trans rfl
      have zX2_ : W10.cell? ⟨gx, 2, none⟩ = some (.slice Y2 g.f2.length y2_) := (blk_cell KX.out 2).trans rfl
      have zX3_ : W10.cell? ⟨gx, 3, none⟩ = some (.slice Y3 g.f3.length y3_) := (blk_cell KX.out 3).trans rfl
      have hz := HZ.out
      go_wp2_with fail
      have hoc := orders_calls D d b W10 (by rw [HBN.out]; exact RB.out.2) (by rw [HBN.out]; exact RB.out.1) (by rw [HBN.out]; omega)
      rw [HBN.out] at hoc
      clear zG0_ zG1_ zG2_ zG3_ zX0_ zX1_ zX2_ zX3_ hz
      refine (hoc).mono ?_
      rintro e W11 ⟨v, ev, rfl, hb_, hE, hO⟩
      obtain ⟨rfl, hR⟩ := hO _ HP.out.2
      dsimp only at hR
      obtain ⟨ol, hol⟩ : ∃ z, z = ords os 0 (cntG g) := ⟨_, rfl⟩
      rw [← hol] at hR
      have hll : ol.length = m := by rw [hol, ords_len]; exact HM.out.symm
      have HOL := Aside0.mk (And.intro hol hll)
      obtain ⟨O, co, e2_⟩ := Kd.R_slice hR
      subst e2_
      have RR := Aside0.mk (Kd.R_reads' hR).2
      rw [hll] at RR ⊢
      clear hR hE hO hol hll hoc
      replace HK0 := Aside0.mk (below_step HK0.out hb_)
      replace RO := Aside0.mk (And.intro RO.out.1 (Kd.C_below RO.out.2 hb_))
      replace IH := Aside0.mk (IH.out.below hb_)
      replace KH := Aside0.mk (blk_below KH.out hb_)
      replace HZ := Aside0.mk ((hb_.cell (World.block_lt_of_cell? _ _ HZ.out)).trans HZ.out)
      replace RB := Aside0.mk (And.intro RB.out.1 (Kd.C_below RB.out.2 hb_))
      replace IX := Aside0.mk (IX.out.below hb_)
      replace KX := Aside0.mk (blk_below KX.out hb_)
      clear hb_
      have zG0_ : W11.cell? ⟨gl, 0, none⟩ = some (.int .i64 g.f0) := (blk_cell KH.out 0).trans rfl
      have zG1_ : W11.cell? ⟨gl, 1, none⟩ = some (.slice G1 g.f1.length g1_) := (blk_cell KH.out 1).trans rfl
      have zG2_ : W11.cell? ⟨gl, 2, none⟩ = some (.slice G2 g.f2.length g2_) := (blk_cell KH.out 2).trans rfl
      have zG3_ : W11.cell? ⟨gl, 3, none⟩ = some (.slice G3 g.f3.length g3_) := (blk_cell KH.out 3).trans rfl
      have zX0_ : W11.cell? ⟨gx, 0, none⟩ = some (.int .i64 g.f0) := (blk_cell KX.out 0).trans rfl
      have zX1_ : W11.cell? ⟨gx, 1, none⟩ = some (.slice Y1 g.f1.length y1_) := (blk_cell KX.out 1).trans rfl
      have zX2_ : W11.cell? ⟨gx, 2, none⟩ = some (.slice Y2 g.f2.length y2_) := (blk_cell KX.out 2).trans rfl
      have zX3_ : W11.cell? ⟨gx, 3, none⟩ = some (.slice Y3 g.f3.length y3_) := (blk_cell KX.out 3).trans rfl
      have hz := HZ.out
      go_wp2_with fail
      clear zG0_ zG1_ zG2_ zG3_ zX0_ zX1_ zX2_ zX3_ hz
      refine (equal_calls g.bulk _ _ g g W11 IH.out IX.out (Nat.le_refl _) (by have := HT.out.2.2.1; omega) (by have := HT.out.2.2.1; omega)).mono ?_
      rintro e W12 ⟨rfl, hb_⟩
      rw [show eqG g g = true from eqG_true rfl]
      replace HK0 := Aside0.mk (below_step HK0.out hb_)
      replace RO := Aside0.mk (And.intro RO.out.1 (Kd.C_below RO.out.2 hb_))
      replace IH := Aside0.mk (IH.out.below hb_)
      replace KH := Aside0.mk (blk_below KH.out hb_)
      replace HZ := Aside0.mk ((hb_.cell (World.block_lt_of_cell? _ _ HZ.out)).trans HZ.out)
      replace RB := Aside0.mk (And.intro RB.out.1 (Kd.C_below RB.out.2 hb_))
      replace IX := Aside0.mk (IX.out.below hb_)
      replace KX := Aside0.mk (blk_below KX.out hb_)
      replace RR := Aside0.mk (And.intro RR.out.1 (Kd.C_below RR.out.2 hb_))
      clear hb_
      have zG0_ : W12.cell? ⟨gl, 0, none⟩ = some (.int .i64 g.f0) := (blk_cell KH.out 0).trans rfl
      have zG1_ : W12.cell? ⟨gl, 1, none⟩ = some (.slice G1 g.f1.length g1_) := (blk_cell KH.out 1).trans rfl
      have zG2_ : W12.cell? ⟨gl, 2, none⟩ = some (.slice G2 g.f2.length g2_) := (blk_cell KH.out 2).trans rfl
      have zG3_ : W12.cell? ⟨gl, 3, none⟩ = some (.slice G3 g.f3.length g3_) := (blk_cell KH.out 3).trans rfl
      have zX0_ : W12.cell? ⟨gx, 0, none⟩ = some (.int .i64 g.f0) := (blk_cell KX.out 0).trans rfl
      have zX1_ : W12.cell? ⟨gx, 1, none⟩ = some (.slice Y1 g.f1.length y1_) := (blk_cell KX.out 1).trans rfl
      have zX2_ : W12.cell? ⟨gx, 2, none⟩ = some (.slice Y2 g.f2.length y2_) := (blk_cell KX.out 2).trans rfl
      have zX3_ : W12.cell? ⟨gx, 3, none⟩ = some (.slice Y3 g.f3.length y3_) := (blk_cell KX.out 3).trans rfl
      have hz := HZ.out
      go_wp2_with fail
      clear zG0_ zG1_ zG2_ zG3_ zX0_ zX1_ zX2_ zX3_ hz
      go_loopg [19] m (fun kr i wr => ∃ k : Nat, k + kr = m ∧ i = .int .i64 (k : Int) ∧ Aside0 (Below W12.heap.size W12 wr))
      case atStart => exact ⟨0, by omega, rfl, ⟨Below.refl _ _⟩⟩
      case round =>
        obtain ⟨k, hk, rfl, HS⟩ := hrel
        have HKK := Aside0.mk hk
        clear hk
        cases gk with
        | zero =>
          have hlt2 : ¬ ((k : Int) < (m : Int)) := by have := HKK.out; omega
          replace HK0 := Aside0.mk (below_step HK0.out HS.out)
          replace RO := Aside0.mk (And.intro RO.out.1 (Kd.C_below RO.out.2 HS.out))
          replace IH := Aside0.mk (IH.out.below HS.out)
          replace KH := Aside0.mk (blk_below KH.out HS.out)
          replace HZ := Aside0.mk ((HS.out.cell (World.block_lt_of_cell? _ _ HZ.out)).trans HZ.out)
          replace RB := Aside0.mk (And.intro RB.out.1 (Kd.C_below RB.out.2 HS.out))
          replace IX := Aside0.mk (IX.out.below HS.out)
          replace KX := Aside0.mk (blk_below KX.out HS.out)
          replace RR := Aside0.mk (And.intro RR.out.1 (Kd.C_below RR.out.2 HS.out))
          clear HS
          by_cases hj2 : (j : Int) < 2
          · have zG0_ : wr.cell? ⟨gl, 0, none⟩ = some (.int .i64 g.f0) := (blk_cell KH.out 0).trans rfl
            have zG1_ : wr.cell? ⟨gl, 1, none⟩ = some (.slice G1 g.f1.length g1_) := (blk_cell KH.out 1).trans rfl
            have zG2_ : wr.cell? ⟨gl, 2, none⟩ = some (.slice G2 g.f2.length g2_) := (blk_cell KH.out 2).trans rfl
            have zG3_ : wr.cell? ⟨gl, 3, none⟩ = some (.slice G3 g.f3.length g3_) := (blk_cell KH.out 3).trans rfl
            have zX0_ : wr.cell? ⟨gx, 0, none⟩ = some (.int .i64 g.f0) := (blk_cell KX.out 0).trans rfl
            have zX1_ : wr.cell? ⟨gx, 1, none⟩ = some (.slice Y1 g.f1.length y1_) := (blk_cell KX.out 1).trans rfl
            have zX2_ : wr.cell? ⟨gx, 2, none⟩ = some (.slice Y2 g.f2.length y2_) := (blk_cell KX.out 2).trans rfl
            have zX3_ : wr.cell? ⟨gx, 3, none⟩ = some (.slice Y3 g.f3.length y3_) := (blk_cell KX.out 3).trans rfl
            have hz := HZ.out
            go_wp2_with fail
            clear zG0_ zG1_ zG2_ zG3_ zX0_ zX1_ zX2_ zX3_ hz
            refine (print_calls _ g ((j : Int) == 0) wr IH.out (by have := HT.out.2.2.1; omega)).mono ?_
            rintro e W13 ⟨u, er, rfl, hR, hE, hb_⟩
            rw [mixedB, if_pos HT.out.2.2.2] at hR
            rw [HT.out.2.2.2] at hE
            obtain rfl : er = .nilIface := hE
            rw [show geoB [(j : Int) == 0] g 0 = b by rw [HBD.out, HOJ.out (by omega)]] at hR
            obtain ⟨E, e_, e2_⟩ := Kd.R_slice hR
            subst e2_
            have RQ := Aside0.mk (Kd.R_reads' hR).2
            rw [HBN.out] at RQ ⊢
            clear hR
            replace HK0 := Aside0.mk (below_step HK0.out hb_)
            replace RO := Aside0.mk (And.intro RO.out.1 (Kd.C_below RO.out.2 hb_))
            replace IH := Aside0.mk (IH.out.below hb_)
            replace KH := Aside0.mk (blk_below KH.out hb_)
            replace HZ := Aside0.mk ((hb_.cell (World.block_lt_of_cell? _ _ HZ.out)).trans HZ.out)
            replace RB := Aside0.mk (And.intro RB.out.1 (Kd.C_below RB.out.2 hb_))
            replace IX := Aside0.mk (IX.out.below hb_)
            replace KX := Aside0.mk (blk_below KX.out hb_)
            replace RR := Aside0.mk (And.intro RR.out.1 (Kd.C_below RR.out.2 hb_))
            clear hb_
            have zG0_ : W13.cell? ⟨gl, 0, none⟩ = some (.int .i64 g.f0) := (blk_cell KH.out 0).trans rfl
            have zG1_ : W13.cell? ⟨gl, 1, none⟩ = some (.slice G1 g.f1.length g1_) := (blk_cell KH.out 1).trans rfl
            have zG2_ : W13.cell? ⟨gl, 2, none⟩ = some (.slice G2 g.f2.length g2_) := (blk_cell KH.out 2).trans rfl
            have zG3_ : W13.cell? ⟨gl, 3, none⟩ = some (.slice G3 g.f3.length g3_) := (blk_cell KH.out 3).trans rfl
            have zX0_ : W13.cell? ⟨gx, 0, none⟩ = some (.int .i64 g.f0) := (blk_cell KX.out 0).trans rfl
            have zX1_ : W13.cell? ⟨gx, 1, none⟩ = some (.slice Y1 g.f1.length y1_) := (blk_cell KX.out 1).trans rfl
            have zX2_ : W13.cell? ⟨gx, 2, none⟩ = some (.slice Y2 g.f2.length y2_) := (blk_cell KX.out 2).trans rfl
            have zX3_ : W13.cell? ⟨gx, 3, none⟩ = some (.slice Y3 g.f3.length y3_) := (blk_cell KX.out 3).trans rfl
            have hz := HZ.out
            go_wp2_with fail
            have hsm := sameb_calls D d b E e_ W13 (by rw [HBN.out]; exact RB.out.2) (by rw [HBN.out]; exact RB.out.1) (by rw [HBN.out]; exact RQ.out.2) (by rw [HBN.out]; exact RQ.out.1) (by rw [HBN.out]; omega)
            rw [HBN.out] at hsm
            clear zG0_ zG1_ zG2_ zG3_ zX0_ zX1_ zX2_ zX3_ hz
            refine (hsm).mono ?_
            rintro e W14 ⟨rfl, hb_⟩
            replace HK0 := Aside0.mk (below_step HK0.out hb_)
            replace RO := Aside0.mk (And.intro RO.out.1 (Kd.C_below RO.out.2 hb_))
            replace IH := Aside0.mk (IH.out.below hb_)
            replace KH := Aside0.mk (blk_below KH.out hb_)
            replace HZ := Aside0.mk ((hb_.cell (World.block_lt_of_cell? _ _ HZ.out)).trans HZ.out)
            replace RB := Aside0.mk (And.intro RB.out.1 (Kd.C_below RB.out.2 hb_))
            replace IX := Aside0.mk (IX.out.below hb_)
            replace KX := Aside0.mk (blk_below KX.out hb_)
            replace RR := Aside0.mk (And.intro RR.out.1 (Kd.C_below RR.out.2 hb_))
            replace RQ := Aside0.mk (And.intro RQ.out.1 (Kd.C_below RQ.out.2 hb_))
            clear hb_
            clear hsm
            have zG0_ : W14.cell? ⟨gl, 0, none⟩ = some (.int .i64 g.f0) := (blk_cell KH.out 0).trans rfl
            have zG1_ : W14.cell? ⟨gl, 1, none⟩ = some (.slice G1 g.f1.length g1_) := (blk_cell KH.out 1).trans rfl
            have zG2_ : W14.cell? ⟨gl, 2, none⟩ = some (.slice G2 g.f2.length g2_) := (blk_cell KH.out 2).trans rfl
            have zG3_ : W14.cell? ⟨gl, 3, none⟩ = some (.slice G3 g.f3.length g3_) := (blk_cell KH.out 3).trans rfl
            have zX0_ : W14.cell? ⟨gx, 0, none⟩ = some (.int .i64 g.f0) := (blk_cell KX.out 0).trans rfl
            have zX1_ : W14.cell? ⟨gx, 1, none⟩ = some (.slice Y1 g.f1.length y1_) := (blk_cell KX.out 1).trans rfl
            have zX2_ : W14.cell? ⟨gx, 2, none⟩ = some (.slice Y2 g.f2.length y2_) := (blk_cell KX.out 2).trans rfl
            have zX3_ : W14.cell? ⟨gx, 3, none⟩ = some (.slice Y3 g.f3.length y3_) := (blk_cell KX.out 3).trans rfl
            have hz := HZ.out
            go_wp2_with fail
            go_roundg kq
            case measure => omega
            case rel => exact ⟨j + 1, by have := HJ.out; omega, by go_num, ⟨below_step HF.out HK0.out⟩⟩
          · have zG0_ : wr.cell? ⟨gl, 0, none⟩ = some (.int .i64 g.f0) := (blk_cell KH.out 0).trans rfl
            have zG1_ : wr.cell? ⟨gl, 1, none⟩ = some (.slice G1 g.f1.length g1_) := (blk_cell KH.out 1).trans rfl
            have zG2_ : wr.cell? ⟨gl, 2, none⟩ = some (.slice G2 g.f2.length g2_) := (blk_cell KH.out 2).trans rfl
            have zG3_ : wr.cell? ⟨gl, 3, none⟩ = some (.slice G3 g.f3.length g3_) := (blk_cell KH.out 3).trans rfl
            have zX0_ : wr.cell? ⟨gx, 0, none⟩ = some (.int .i64 g.f0) := (blk_cell KX.out 0).trans rfl
            have zX1_ : wr.cell? ⟨gx, 1, none⟩ = some (.slice Y1 g.f1.length y1_) := (blk_cell KX.out 1).trans rfl
            have zX2_ : wr.cell? ⟨gx, 2, none⟩ = some (.slice Y2 g.f2.length y2_) := (blk_cell KX.out 2).trans rfl
            have zX3_ : wr.cell? ⟨gx, 3, none⟩ = some (.slice Y3 g.f3.length y3_) := (blk_cell KX.out 3).trans rfl
            have hz := HZ.out
            go_wp2_with fail
            go_roundg kq
            case measure => omega
            case rel => exact ⟨j + 1, by have := HJ.out; omega, by go_num, ⟨below_step HF.out HK0.out⟩⟩
        | succ kr =>
          have hkm : k < m := by have := HKK.out; omega
          have hlt2 : (k : Int) < (m : Int) := by omega
          obtain ⟨ado, eo, hco⟩ := Kd.at_bool RR.out.2 (k : Int) (by omega) (by omega)
          subst eo
          have hov : rdOf false ol (k : Int) = ordAt os k := by
            rw [rdOf, Int.toNat_natCast, HOL.out.1, ords_get os _ 0 k (by rw [← HM.out]; exact hkm), Nat.zero_add]
          rw [hov, Int.toNat_natCast] at hco
          have hco2 := (HS.out.cell (World.block_lt_of_cell? _ _ hco)).trans hco
          obtain ⟨ov, hovd⟩ : ∃ z, z = ordAt os k := ⟨_, rfl⟩
          rw [← hovd] at hco2
          clear hov hco
          have hz := (HS.out.cell (World.block_lt_of_cell? _ _ HZ.out)).trans HZ.out
          by_cases hos : os.length = 0
          · have hl0 : ¬ ((0 : Int) < (os.length : Int)) := by omega
            obtain rfl : ov = false := by rw [hovd]; unfold ordAt; rw [if_pos hos]
            clear hovd hos
            go_wp2_with fail
            go_roundg kr
            case measure => omega
            case rel => exact ⟨k + 1, by have := HKK.out; omega, by go_num, ⟨HS.out⟩⟩
          · have hl0 : (0 : Int) < (os.length : Int) := by omega
            obtain ⟨jj, hjj⟩ : ∃ z, z = min k (os.length - 1) := ⟨_, rfl⟩
            have hjl : jj < os.length := by omega
            obtain ⟨ad, eP, hc⟩ := Kd.at_bool RO.out.2 (jj : Int) (by omega) (by omega)
            subst eP
            have hv : rdOf false os (jj : Int) = ov := by
              rw [hovd]
              unfold ordAt
              rw [if_neg hos, ← hjj, rdOf, Int.toNat_natCast]
            rw [hv, Int.toNat_natCast] at hc
            have hc2 := (HS.out.cell (World.block_lt_of_cell? _ _ hc)).trans hc
            have HOV := Aside0.mk hovd
            clear hovd hv hc
            rcases Nat.lt_or_ge (os.length - 1) k with hlt3 | hge
            · have e1 : (os.length : Int) - 1 < (k : Int) := by omega
              have e2 : (os.length : Int) - 1 = (jj : Int) := by omega
              have e3 : (jj : Int) < (os.length : Int) := by omega
              clear hjj hos
              go_wp2_with fail
              go_quiet (fail)
              go_wp2_with fail
              go_roundg kr
              case measure => omega
              case rel => exact ⟨k + 1, by have := HKK.out; omega, by go_num, ⟨below_step HS.out (pw_below_drewN (Below.refl _ _) _)⟩⟩
            · have e1 : ¬ ((os.length : Int) - 1 < (k : Int)) := by omega
              obtain rfl : k = jj := by omega
              have e3 : (k : Int) < (os.length : Int) := by omega
              clear hjj hos
              go_wp2_with fail
              go_quiet (fail)
              go_wp2_with fail
              go_roundg kr
              case measure => omega
              case rel => exact ⟨k + 1, by have := HKK.out; omega, by go_num, ⟨below_step HS.out (pw_below_drewN (Below.refl _ _) _)⟩⟩
end Go.Proofs.Ytiiolhnpnlmkjaa.Tree
namespace Go.Proofs.Ytiiolhnpnlmkjaa.Tree
open Go.RowKit Go.Proofs.YtiiolhnpnlmkjaaW.PrintWords Go.Proofs.YtiiolhnpnlmkjaaW.PrintLast Go.Proofs.YtiiolhnpnlmkjaaW.PrintMore
theorem exists_list {α : Type} (P : Nat → α → Prop) : ∀ n : Nat, (∀ i, i < n → ∃ a, P i a) → ∃ xs : List α, xs.length = n ∧ ∀ i a, xs[i]? = some a → P i a := by
  intro n
  induction n with
  | zero => intro _; exact ⟨[], rfl, fun i a h => by simp at h⟩
  | succ n ih =>
    intro h
    obtain ⟨xs, hl, hx⟩ := ih (fun i hi => h i (by omega))
    obtain ⟨a, ha⟩ := h n (by omega)
    refine ⟨xs ++ [a], by simp [hl], fun i b hb => ?_⟩
    by_cases hi : i < xs.length
    · rw [List.getElem?_append_left hi] at hb; exact hx i b hb
    · have hlt := (List.getElem?_eq_some_iff.1 hb).1
      simp at hlt
      obtain rfl : i = n := by omega
      rw [List.getElem?_append_right (by omega)] at hb
      simp [hl] at hb
      subst hb; exact ha
theorem sum_le {α H : Type} (wt : α → Nat) : ∀ (xs : List α) (ys : List (DataW H)), xs.length = ys.length → (∀ (i : Nat) (a : α) (y : DataW H), xs[i]? = some a → ys[i]? = some y → wt a ≤ Rows.uptoBulk y) → (xs.map wt).sum ≤ Rows.uptoBulkAll ys := by
  intro xs
  induction xs with
  | nil => intro ys _ _; simp
  | cons a xs ih =>
    intro ys hl h
    cases ys with
    | nil => simp at hl
    | cons y ys =>
      simp only [List.map_cons, List.sum_cons, Rows.uptoBulkAll]
      have h1 := h 0 a y rfl rfl
      have h2 := ih ys (by simpa using hl) (fun i b z hb hz => h (i + 1) b z (by simpa using hb) (by simpa using hz))
      omega
theorem mapM_get {α β : Type} {f : α → Option β} : ∀ {l : List α} {r : List β}, l.mapM f = some r → ∀ (i : Nat) (x : α), l[i]? = some x → f x = r[i]? := by
  intro l
  induction l with
  | nil => intro r _ i x h; simp at h
  | cons y l ih =>
    intro r h i x hx
    simp only [List.mapM_cons, Option.bind_eq_bind, Option.bind_eq_some_iff, Option.pure_def, Option.some.injEq] at h
    obtain ⟨z, h1, r', h2, rfl⟩ := h
    cases i with
    | zero => simp at hx; subst hx; simpa using h1
    | succ i => simp at hx; simpa using ih h2 i x hx
section
variable {H : Type} {enc : TypeId × Value → H} {W : World} {base : Nat} {sp : Nat → Bool} {held : Bool}
theorem cells_get {a : Addr} {n : Nat} {cs : List Value} (h : W.cells? base a n = some cs) (hl : cs.length ≤ n) : ∀ i u, cs[i]? = some u → W.cell? (a.add i) = some u := by
  intro i u hu
  unfold World.cells? at h
  split at h
  · have hi := (List.getElem?_eq_some_iff.1 hu).1
    have := mapM_get h i i (by rw [List.getElem?_range]; omega)
    rw [this, hu]
  · cases h
theorem one_le (d : DataW H) : 1 ≤ Rows.uptoBulk d := by
  cases d with
  | lit l => cases l <;> simp [Rows.uptoBulk]
  | nil => simp [Rows.uptoBulk]
  | ptr d => simp [Rows.uptoBulk]
  | slice elems spare => simp [Rows.uptoBulk]
  | agg parts => simp [Rows.uptoBulk]
  | iface t d => simp [Rows.uptoBulk]
  | map entries => simp [Rows.uptoBulk]
  | held h => simp [Rows.uptoBulk]
theorem sum_one {α : Type} (l : List α) : (l.map fun _ => 1).sum = l.length := by
  induction l with
  | nil => rfl
  | cons a l ih => simp only [List.map_cons, List.sum_cons, ih, List.length_cons]; omega
end
end Go.Proofs.Ytiiolhnpnlmkjaa.Tree
namespace Go.Proofs.Ytiiolhnpnlmkjaa.Tree
open Go.RowKit Go.Proofs.YtiiolhnpnlmkjaaW.PrintWords Go.Proofs.YtiiolhnpnlmkjaaW.PrintLast Go.Proofs.YtiiolhnpnlmkjaaW.PrintMore Go.Proofs.Ytiiolhnpnlmkjaa.PMk
theorem cellsU64 : Try.prog.cellsOf 63 = 1 := by kernel_rfl
theorem cellsWn : Try.prog.cellsOf 86 = 3 := by kernel_rfl
theorem list3w {α : Type} : ∀ {l : List α}, l.length = 3 → ∃ a b c, l = [a, b, c]
  | [a, b, c], _ => ⟨a, b, c, rfl⟩
section
variable {H : Type} {enc : TypeId × Value → H} {W : World} {base : Nat} {sp : Nat → Bool} {held : Bool}
theorem open_rowP {α : Type} (P : α → Prop) (d : Kd α) (wt : α → Nat) {t e : TypeId} (ht : Try.prog.underlying t = some (.slice e)) (hs : Try.prog.cellsOf e = d.sz) {n : Nat} {cs : List Value} {x : DataW H × List MemPlace}
    (hE : ∀ m cs y, m < n → DataW.trod enc Try.prog W base sp held m e cs = some y → ∃ a, d.K W a cs ∧ wt a ≤ Rows.uptoBulk y.1 ∧ P a)
    (h : DataW.trod enc Try.prog W base sp held n t cs = some x) : ∃ A c xs, cs = [.slice A xs.length c] ∧ xs.length ≤ c ∧ d.C W A xs.length xs ∧ (xs.map wt).sum + 1 ≤ Rows.uptoBulk x.1 ∧ ∀ a ∈ xs, P a := by
  rcases DataW.trod_slice ht h with ⟨rfl, rfl⟩ | ⟨a, len, cap, elems, rest, m, rfl, rfl, rfl, _, hlc, hcm, hel, hget, _, _⟩
  · exact ⟨none, 0, [], rfl, Nat.le_refl _, (Kd.R_reads' (Kd.R_nil d 0 W 0 (fun _ => True))).2.2, by simp [Rows.uptoBulk], by simp⟩
  · obtain ⟨xs, hl, hx⟩ := exists_list (fun i p => ∃ cs y, W.cells? base (a.add (i * d.sz)) d.sz = some cs ∧ elems[i]? = some y ∧ d.K W p cs ∧ wt p ≤ Rows.uptoBulk y.1 ∧ P p) len (fun i hi => by
      have h1 := hget i hi
      rw [hs, List.getElem?_eq_getElem (by omega)] at h1
      obtain ⟨c, h2, h3⟩ := Option.bind_eq_some_iff.1 h1
      obtain ⟨p, h4, h5⟩ := hE m c _ (by omega) h3
      exact ⟨p, c, _, h2, List.getElem?_eq_getElem (by omega), h4, h5⟩)
    refine ⟨some a, cap, xs, by rw [hl], by omega, ?_, ?_, ?_⟩
    · refine ⟨rfl, by have : maxLen ≤ 9223372036854775807 := by decide
                      omega, fun _ => ⟨a, rfl, fun j p hj => ?_⟩⟩
      obtain ⟨c, y, h1, _, h3, _⟩ := hx j p hj
      have hcl := d.K_len h3
      refine ⟨c, hcl, h3, fun i u hu => ?_⟩
      have := cells_get h1 (by omega) i u hu
      rw [Addr.add_add] at this
      exact this
    · have := sum_le wt xs (elems.map (·.1)) (by simp [hl, hel]) (fun i p y hp hy => by
        obtain ⟨c, z, _, h2, _, h4, _⟩ := hx i p hp
        rw [List.getElem?_map, h2] at hy
        cases hy; exact h4)
      simp only [Rows.uptoBulk]
      omega
    · intro p hp
      obtain ⟨i, hi, rfl⟩ := List.mem_iff_getElem.1 hp
      obtain ⟨c, z, _, _, _, _, h4⟩ := hx i _ (List.getElem?_eq_getElem hi)
      exact h4
theorem open_u64 {n : Nat} {cs : List Value} {y : DataW H × List MemPlace} (h : DataW.trod enc Try.prog W base sp held n 63 cs = some y) : ∃ i : Int, (Kd.int .u64).K W i cs ∧ 1 ≤ Rows.uptoBulk y.1 ∧ 0 ≤ i ∧ i < 18446744073709551616 := by
  obtain ⟨a, ea, _, hw⟩ := DataW.trod_int Try.underlying63 h
  have := bounds_u64 hw
  exact ⟨a, ea, one_le _, by omega, by omega⟩
def wnW (x : Wn) : Nat := 1 + x.f2.length
set_option maxRecDepth 100000 in
theorem open_wn {n : Nat} {cs : List Value} {y : DataW H × List MemPlace} (h : DataW.trod enc Try.prog W base sp held n 86 cs = some y) : ∃ x : Wn, kWn.K W x cs ∧ wnW x ≤ Rows.uptoBulk y.1 ∧ ∀ z ∈ x.f2, 0 ≤ z ∧ z < 18446744073709551616 := by
  obtain ⟨xs, m, rfl, rfl, hl, hx, hf⟩ := DataW.trod_struct Try.underlying86 h
  rw [cellsWn] at hl
  obtain ⟨u0, u1, u2, rfl⟩ := list3w hl
  have h0 := hf 0 _ rfl
  have h1 := hf 1 _ rfl
  have h2 := hf 2 _ rfl
  obtain ⟨y0, y1, y2, rfl⟩ := list3w (show xs.length = 3 from hx)
  obtain ⟨k, ek, _⟩ := DataW.trod_int Try.underlying3 (show DataW.trod enc Try.prog W base sp held m 3 [u0] = some y0 from h0)
  cases ek
  obtain ⟨s, es, _⟩ := DataW.trod_int Try.underlying3 (show DataW.trod enc Try.prog W base sp held m 3 [u1] = some y1 from h1)
  cases es
  obtain ⟨A2, c2, l, e2, l2, r2, b2, p2⟩ := open_rowP (fun i : Int => 0 ≤ i ∧ i < 18446744073709551616) (Kd.int .u64) (fun _ => 1) (t := 84) (e := 63) Try.underlying84 cellsU64 (fun m' cs y _ h => open_u64 h) (show DataW.trod enc Try.prog W base sp held m 84 [u2] = some y2 from h2)
  cases e2
  rw [sum_one] at b2
  refine ⟨⟨k, s, l⟩, kWn_mk W ⟨k, s, l⟩ l2 r2, ?_, p2⟩
  unfold wnW
  simp only [List.map_cons, List.map_nil, Rows.uptoBulk, Rows.uptoBulkAll]
  omega
theorem sum_wn (l : List Wn) : l.length ≤ (l.map wnW).sum ∧ ∀ x ∈ l, x.f2.length ≤ (l.map wnW).sum := by
  induction l with
  | nil => simp
  | cons a l ih =>
    simp only [List.map_cons, List.sum_cons, List.length_cons]
    have ha : wnW a = 1 + a.f2.length := rfl
    refine ⟨by omega, fun x hx => ?_⟩
    rcases List.mem_cons.1 hx with rfl | hx
    · omega
    · have := ih.2 x hx
      omega
end
end Go.Proofs.Ytiiolhnpnlmkjaa.Tree
namespace Go.Proofs.Ytiiolhnpnlmkjaa.wkbBack
open Go.ChangeShapes Go.WideShapes Go.ChangeAt Go.RowKit Go.Proofs.Ytiiolhnpnlmkjaa.Tree
theorem own : ownKnob Try.prog.godebug = none := by kernel_rfl
theorem laidOut : laidOutB Try.prog = true := by kernel_rfl
theorem cellsBool : Try.prog.cellsOf 4 = 1 := by kernel_rfl
theorem open_b {H : Type} {enc : TypeId × Value → H} {W : World} {base : Nat} {sp : Nat → Bool} {held : Bool} {n : Nat} {cs : List Value} {y : DataW H × List MemPlace} (h : DataW.trod enc Try.prog W base sp held n 4 cs = some y) : ∃ b : Bool, Go.Proofs.YtiiolhnpnlmkjaaW.PrintWords.Kd.bool.K W b cs ∧ 1 ≤ Rows.uptoBulk y.1 := by
  obtain ⟨a, ea, _⟩ := DataW.trod_bool Try.underlying4 h
  exact ⟨a, ea, one_le _⟩
set_option maxRecDepth 100000 in
set_option maxHeartbeats 4000000 in
theorem contract (H : Type) (enc : TypeId × Value → H) (W : World) (args : Array Value) (ds gs : List (DataW H)) (before : List MemPlace) (b0 : Nat) (hval : ∀ (j : Nat) t v, Try.f4.params[j]? = some t → args[j]? = some v → Value.okWide Try.prog W .any b0 t v)
    (hW : DataW.Whole enc Try.prog Try.f4.params.toList Rows.wkbBackSpec.vars false W args.toList ds gs before) (hk : Rows.uptoSmall H (ds ++ gs) = true) :
    Calls Try.prog 4 args W fun e W' => ∃ v, e = .returned v ∧ Rows.wkbBackSpec.post enc Try.prog Try.f4 false true false false W args v W' := by
  have hW' := hW
  obtain ⟨p, q, hA0, hV, rfl, hfz, hnd⟩ := hW
  have hA : DataW.TrodAll enc Try.prog W 0 (fun _ => true) true Try.f4.params.toList args.toList ds p := hA0
  rw [Try.params4] at hA
  obtain ⟨v0, vs0, d0, ds0, p0, q0, hargs, rfl, rfl, h0, r0⟩ := trodAll_cons hA
  obtain ⟨v1, vs1, d1, ds1, p1, q1, rfl, rfl, rfl, h1, r1⟩ := trodAll_cons r0
  obtain ⟨rfl, rfl, rfl⟩ := trodAll_nil r1
  obtain rfl : args = #[v0, v1] := by cases args; simp_all
  obtain ⟨rfl, rfl⟩ := trodVars_none hV
  have k0 := h0
  obtain ⟨fuel0, hf0⟩ := h0
  obtain ⟨A0, c0, l0, e0, n0, s0, hb0, hP0⟩ := open_rowP (fun x : Go.Proofs.Ytiiolhnpnlmkjaa.PMk.Wn => ∀ z ∈ x.f2, 0 ≤ z ∧ z < 18446744073709551616) Go.Proofs.Ytiiolhnpnlmkjaa.PMk.kWn wnW (t := 22) (e := 86) Try.underlying22 cellsWn (fun m' cs y _ h => open_wn h) hf0
  obtain ⟨a0_, len_, cap_, rfl⟩ := okWide_slice Try.underlying22 (hval 0 22 v0 (by rw [Try.params4]; rfl) rfl)
  obtain ⟨rfl, rfl, rfl⟩ : A0 = a0_ ∧ l0.length = len_ ∧ c0 = cap_ := by
    have e9 : [Value.slice a0_ len_ cap_] = [Value.slice A0 l0.length c0] := e0
    cases e9
    exact ⟨rfl, rfl, rfl⟩
  have lt0 : ∀ x ∈ p0, x.block < W.heap.size := by obtain ⟨m, hm⟩ := k0; exact DataW.trod_lt m _ _ _ hm
  have k1 := h1
  obtain ⟨fuel1, hf1⟩ := h1
  obtain ⟨A1, c1, l1, e1, n1, s1, hb1, hP1⟩ := open_rowP (fun _ : Bool => True) Go.Proofs.YtiiolhnpnlmkjaaW.PrintWords.Kd.bool (fun _ => 1) (t := 40) (e := 4) Try.underlying40 cellsBool (fun m' cs y _ h => (open_b h).elim fun b hb => ⟨b, hb.1, hb.2, trivial⟩) hf1
  rw [sum_one] at hb1
  obtain ⟨a0_, len_, cap_, rfl⟩ := okWide_slice Try.underlying40 (hval 1 40 v1 (by rw [Try.params4]; rfl) rfl)
  obtain ⟨rfl, rfl, rfl⟩ : A1 = a0_ ∧ l1.length = len_ ∧ c1 = cap_ := by
    have e9 : [Value.slice a0_ len_ cap_] = [Value.slice A1 l1.length c1] := e1
    cases e9
    exact ⟨rfl, rfl, rfl⟩
  have lt1 : ∀ x ∈ p1, x.block < W.heap.size := by obtain ⟨m, hm⟩ := k1; exact DataW.trod_lt m _ _ _ hm
  have hsum : Rows.uptoBulkAll ([d0, d1] ++ []) ≤ 1048576 := of_decide_eq_true hk
  simp only [List.append_nil, Rows.uptoBulkAll] at hsum
  have hbk0 : (l0.map wnW).sum ≤ 1048576 := by
    have hb' : (l0.map wnW).sum + 1 ≤ Rows.uptoBulk d0 := hb0
    omega
  have hbk1 : l1.length ≤ 1048576 := by
    have hb' : l1.length + 1 ≤ Rows.uptoBulk d1 := hb1
    omega
  clear hA0
  refine (wback_calls A0 c0 l0 A1 c1 l1 W s0 (by have := (sum_wn l0).1; omega) (fun x hx => by have := (sum_wn l0).2 x hx; omega) hP0 s1 n1 hbk1).mono fun e W' ⟨he, bel⟩ => ?_
  subst he
  exact ⟨_, rfl, _, _, _, [], _, [], hW', trodAll_mk1 (shut_bool Try.underlying4 _), (trodAll_cons_mk (Below.trod laidOut (by kernel_rfl) (of_decide_eq_true (by kernel_rfl)) k0 bel lt0) (trodAll_cons_mk (Below.trod laidOut (by kernel_rfl) (of_decide_eq_true (by kernel_rfl)) k1 bel lt1) trodAll_mk0)), rfl, bel.frame _, fun h => by cases h⟩
set_option maxRecDepth 100000 in
theorem lifted (os : Os) (started : os.Started) (H : Type) (enc : TypeId × Value → H) (F : Stop.Interp) :
    ReturnsInHanded {} Try.checked os 4 .any ((Rows.OpenSpec.upto Rows.wkbBackSpec).pre6 enc Try.prog Try.f4 Rows.wkbBackUptoRow.domain false) (((Rows.OpenSpec.upto Rows.wkbBackSpec).at F).post enc Try.prog Try.f4 false true false false) := by
  refine returnsInHanded_of_cond (C := Try.checked) (s := Rows.OpenSpec.upto Rows.wkbBackSpec) (k := Rows.uptoSmall) rfl own started (by kernel_rfl) Try.func4
    (OpenSpec.witness (enc := enc) (C := Try.checked) (s := Rows.OpenSpec.upto Rows.wkbBackSpec) (k := Rows.uptoSmall) rfl false ⟨#[], #[.slice none 0 0, .slice none 0 0], []⟩ 8 (by kernel_rfl) (by kernel_rfl) (by kernel_rfl)
      (x := ([.nil, .nil], [], [])) (by kernel_rfl) rfl (by kernel_rfl)) ?_
  intro W base args ds gs before hval hW _ hk _
  exact contract H enc W args ds gs before base hval hW hk
theorem said : Rows.WkbBackUptoSaid :=
  OpenClaim.holds_of_cond 4 Try.f4 rfl rfl rfl rfl rfl rfl rfl ⟨rfl, rfl, rfl, rfl, rfl⟩ rfl rfl rfl rfl rfl (by kernel_rfl) Try.func4 (by kernel_rfl)
    (of_decide_eq_true (by kernel_rfl)) (by unfold Func.isWrapper; first | (rw [if_pos (by decide +kernel)]; kernel_rfl) | (rw [if_neg (by decide +kernel)]; exact ⟨rfl, rfl⟩))
    (fun os started H enc _ F => lifted os started H enc F)
end Go.Proofs.Ytiiolhnpnlmkjaa.wkbBack
namespace Go.Proofs.Ytiiolhnpnlmkjaa
theorem wkbBack_holds : Rows.WkbBackUptoSaid := wkbBack.said
end Go.Proofs.Ytiiolhnpnlmkjaa
