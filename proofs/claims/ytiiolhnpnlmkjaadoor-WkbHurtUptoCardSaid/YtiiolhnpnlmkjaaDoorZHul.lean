/- Texts of this claim laid one behind the other (TWAlive; TLawLimits; TLawCuts; TLawHurt; TOpen; TOpenW; TOpenH; TRowHurt): what each proves stands at its own names; the last one is the claim's. No conditions but those told. -/
import Derived.Test.YtiiolhnpnlmkjaaDoorZHuk
import Derived.Test.YtiiolhnpnlmkjaaDoorRows
import Derived.ChangeArms
import Derived.ChangeShapes
import Derived.WalkKit
import Derived.ProofKit
import Derived.OpenShut
import Derived.JoinedCond
import Derived.Carry
import Derived.LaidLaws
import Derived.LaidHandle
import Derived.JoinedOf
import Derived.Deep.DeepHandedRow
import Derived.SevenTiedAt
import Derived.Test.YtiiolhnpnlmkjaaDoorTie
import Derived.Test.YtiiolhnpnlmkjaaDoorCards
namespace Go.Proofs.YtiiolhnpnlmkjaaDoor.Tree
open Go.RowKit Go.Proofs.YtiiolhnpnlmkjaaDoor.PWkbPrints Go.Proofs.YtiiolhnpnlmkjaaDoorW.PrintWords Go.Proofs.YtiiolhnpnlmkjaaDoorW.PrintLast Go.Proofs.YtiiolhnpnlmkjaaDoorW.PrintMore
attribute [local go_sem] Oper.semAt_some max2_int max_two min2_int min_two
def gA : Ge := ⟨1, [⟨4607182418800017408, 4611686018427387904⟩], [], []⟩
def bA : List Int := [1, 1, 0, 0, 0, 0, 0, 0, 0, 0, 0, 240, 63, 0, 0, 0, 0, 0, 0, 0, 64]
def sA : ByteArray := ⟨#[48, 49, 48, 49, 48, 48, 48, 48, 48, 48, 48, 48, 48, 48, 48, 48, 48, 48, 48, 48, 48, 48, 102, 48, 51, 102, 48, 48, 48, 48, 48, 48, 48, 48, 48, 48, 48, 48, 48, 48, 52, 48]⟩
theorem gA_check : checkR gA = none := by kernel_rfl
theorem gA_bytes : geoB [true] gA 0 = bA := by kernel_rfl
theorem gA_parsed : parsedR bA 1 21 = .ok (gA, [true]) := by kernel_rfl
theorem gA_hex : PMk.octet_Hex.f 30 bA = some sA := by kernel_rfl
set_option maxRecDepth 100000 in
set_option maxHeartbeats 16000000 in
theorem alive_calls (w : World) : Calls Tryd.prog 27 #[] w fun e w' => e = .returned (.bool true) ∧ Below w.heap.size w w' := by
  have hu := Tryd.underlying28
  go_enter Tryd.func27, Tryd.ntmps27
  go_upto_region 2 with fail
  obtain ⟨gl, hgl⟩ : ∃ y, y = w.heap.size := ⟨_, rfl⟩
  obtain ⟨W1, hW1⟩ : ∃ y, y = (w.alloc (.cells #[.int .u64 4607182418800017408, .int .u64 4611686018427387904] 82)).alloc (.cells #[.int .i64 1, .slice (some ⟨w.heap.size, 0, none⟩) 1 1, .slice none 0 0, .slice none 0 0] 28) := ⟨_, rfl⟩
  rw [← hW1, ← hgl]
  have hb1 : Below w.heap.size w W1 := by rw [hW1]; exact below_alloc (below_alloc (Below.refl _ _) _) _
  have kl : W1.heap[gl]? = some (.cells #[.int .u64 4607182418800017408, .int .u64 4611686018427387904] 82 (0, 0)) := by rw [hW1, hgl]; exact blk_alloc (World.alloc_heap_new _ _) _
  have kg : W1.heap[gl + 1]? = some (.cells #[.int .i64 1, .slice (some ⟨gl, 0, none⟩) 1 1, .slice none 0 0, .slice none 0 0] 28 (0, 0)) := by
    rw [hW1, hgl]
    have h9 := World.alloc_heap_new (w.alloc (.cells #[.int .u64 4607182418800017408, .int .u64 4611686018427387904] 82)) (.cells #[.int .i64 1, .slice (some ⟨w.heap.size, 0, none⟩) 1 1, .slice none 0 0, .slice none 0 0] 28)
    simpa using h9
  have hIG : IsG W1 (.agg #[.int .i64 1, .slice (some ⟨gl, 0, none⟩) 1 1, .slice none 0 0, .slice none 0 0]) gA := ⟨_, 1, none, 0, none, 0, rfl, Nat.le_refl _, lit_pt (q := ⟨4607182418800017408, 4611686018427387904⟩) kl, Nat.le_refl _, Kd.C_nil _ _, Nat.le_refl _, Kd.C_nil _ _⟩
  have H1 := Aside0.mk (And.intro (And.intro hb1 kg) hIG)
  have z0_ : W1.cell? ⟨gl + 1, 0, none⟩ = some (.int .i64 1) := (blk_cell kg 0).trans rfl
  have z1_ : W1.cell? ⟨gl + 1, 1, none⟩ = some (.slice (some ⟨gl, 0, none⟩) 1 1) := (blk_cell kg 1).trans rfl
  have z2_ : W1.cell? ⟨gl + 1, 2, none⟩ = some (.slice none 0 0) := (blk_cell kg 2).trans rfl
  have z3_ : W1.cell? ⟨gl + 1, 3, none⟩ = some (.slice none 0 0) := (blk_cell kg 3).trans rfl
  clear hW1 hgl hb1 kl kg hIG
  go_wp2_with fail
  refine (print_calls _ gA true W1 H1.out.2 (by decide)).mono ?_
  rintro e W2 ⟨u, er, rfl, hR, hE, hb2⟩
  rw [mixedB, if_pos gA_check, gA_bytes] at hR
  rw [gA_check] at hE
  obtain rfl : er = .nilIface := hE
  obtain ⟨A, c, e2⟩ := Kd.R_slice hR
  have hlA : bA.length = 21 := rfl
  rw [hlA] at e2
  subst e2
  have H2 := Aside0.mk (And.intro (And.intro (below_step H1.out.1.1 hb2) (blk_below H1.out.1.2 hb2)) (And.intro (H1.out.2.below hb2) (Kd.R_reads' hR).2))
  clear z0_ z1_ z2_ z3_ hb2 hR H1
  go_wp2_with fail
  refine (parse_calls A c bA 1 21 W2 H2.out.2.2.2 H2.out.2.2.1 (by decide)).mono ?_
  rintro e W3 ⟨uh, eh, rfl, hb3, -, hO⟩
  obtain ⟨rfl, hcp⟩ := hO _ gA_parsed
  have hig := hcp.isG
  have H3 := Aside0.mk (And.intro (And.intro (below_step H2.out.1.1 hb3) (blk_below H2.out.1.2 hb3)) (And.intro (And.intro (H2.out.2.1.below hb3) (And.intro H2.out.2.2.1 (Kd.C_below H2.out.2.2.2 hb3))) hig))
  obtain ⟨k, A1, n1, c1, A2, n2, c2, A3, n3, c3, e3⟩ := hcp.agg
  subst e3
  clear hb3 hO hcp H2 hig
  go_upto_region 4 with fail
  obtain ⟨W4, hW4⟩ : ∃ y, y = W3.alloc (.cells #[.int .i64 k, .slice A1 n1 c1, .slice A2 n2 c2, .slice A3 n3 c3] 28) := ⟨_, rfl⟩
  obtain ⟨gh, hgh⟩ : ∃ y, y = W3.heap.size := ⟨_, rfl⟩
  rw [← hW4, ← hgh]
  have hb4 : Below W3.heap.size W3 W4 := by rw [hW4]; exact below_alloc (Below.refl _ _) _
  have kh : W4.heap[gh]? = some (.cells #[.int .i64 k, .slice A1 n1 c1, .slice A2 n2 c2, .slice A3 n3 c3] 28 (0, 0)) := by rw [hW4, hgh]; exact World.alloc_heap_new _ _
  have kg := blk_below H3.out.1.2 hb4
  have H4 := Aside0.mk (And.intro (And.intro (below_step H3.out.1.1 hb4) (And.intro kg kh)) (And.intro (And.intro (H3.out.2.1.1.below hb4) (And.intro H3.out.2.1.2.1 (Kd.C_below H3.out.2.1.2.2 hb4))) (H3.out.2.2.below hb4)))
  clear hW4 hgh hb4 kg kh H3
  go_wp2_with fail
  refine (PMk.octet_Hex.calls 30 A c bA sA W4 H4.out.2.1.2.2 H4.out.2.1.2.1 gA_hex).mono ?_
  rintro e W5 ⟨rfl, hb5⟩
  have H5 := Aside0.mk (And.intro (below_step H4.out.1.1 hb5) (And.intro (H4.out.2.1.1.below hb5) (H4.out.2.2.below hb5)))
  have kg := blk_below H4.out.1.2.1 hb5
  have kh := blk_below H4.out.1.2.2 hb5
  have z0_ : W5.cell? ⟨gl + 1, 0, none⟩ = some (.int .i64 1) := (blk_cell kg 0).trans rfl
  have z1_ : W5.cell? ⟨gl + 1, 1, none⟩ = some (.slice (some ⟨gl, 0, none⟩) 1 1) := (blk_cell kg 1).trans rfl
  have z2_ : W5.cell? ⟨gl + 1, 2, none⟩ = some (.slice none 0 0) := (blk_cell kg 2).trans rfl
  have z3_ : W5.cell? ⟨gl + 1, 3, none⟩ = some (.slice none 0 0) := (blk_cell kg 3).trans rfl
  have y0_ : W5.cell? ⟨gh, 0, none⟩ = some (.int .i64 k) := (blk_cell kh 0).trans rfl
  have y1_ : W5.cell? ⟨gh, 1, none⟩ = some (.slice A1 n1 c1) := (blk_cell kh 1).trans rfl
  have y2_ : W5.cell? ⟨gh, 2, none⟩ = some (.slice A2 n2 c2) := (blk_cell kh 2).trans rfl
  have y3_ : W5.cell? ⟨gh, 3, none⟩ = some (.slice A3 n3 c3) := (blk_cell kh 3).trans rfl
  have hstr : (sA.toList == [48, 49, 48, 49, 48, 48, 48, 48, 48, 48, 48, 48, 48, 48, 48, 48, 48, 48, 48, 48, 48, 48, 102, 48, 51, 102, 48, 48, 48, 48, 48, 48, 48, 48, 48, 48, 48, 48, 48, 48, 52, 48]) = true := by kernel_rfl
  clear hb5 H4 kg kh
  go_wp2_with fail
  refine (equal_calls gA.bulk _ _ gA gA W5 H5.out.2.1 H5.out.2.2 (Nat.le_refl _) (by decide) (by decide)).mono ?_
  rintro e W6 ⟨rfl, hb6⟩
  rw [eqG_true rfl]
  have HB6 := Aside0.mk (below_step H5.out.1 hb6)
  clear hb6
  go_wp2_with fail
  go_ret
  exact ⟨rfl, HB6.out⟩
end Go.Proofs.YtiiolhnpnlmkjaaDoor.Tree
namespace Go.Proofs.YtiiolhnpnlmkjaaDoor.Tree
open Go.RowKit Go.Proofs.YtiiolhnpnlmkjaaDoor.PWkbPrints Go.Proofs.YtiiolhnpnlmkjaaDoorW.PrintWords Go.Proofs.YtiiolhnpnlmkjaaDoorW.PrintLast Go.Proofs.YtiiolhnpnlmkjaaDoorW.PrintMore Go.Proofs.YtiiolhnpnlmkjaaDoor.PMk
attribute [local go_sem] Oper.semAt_some max2_int max_two min2_int min_two
theorem zero_no (w : World) : Calls Tryd.prog 29 #[.agg #[.int .i64 0, .slice none 0 0, .slice none 0 0, .slice none 0 0]] w fun e w' => e = .returned (.bool true) ∧ Below w.heap.size w w' :=
  plumblaw17_zero.calls 0 none 0 [] none 0 [] none 0 [] true w (Kd.C_nil _ _) (Nat.le_refl _) (Kd.C_nil _ _) (Nat.le_refl _) (Kd.C_nil _ _) (Nat.le_refl _) (by kernel_rfl)
theorem info5b : (Tryd.prog.info? 5).map (fun i => (i.zero, i.size, i.bytes)) = some (some (.int .u8 0), 1, 1) := by kernel_rfl
set_option maxRecDepth 100000 in
set_option maxHeartbeats 32000000 in
theorem hurt_calls (A : Option Addr) (c : Nat) (l : List Wn) (a1 a2 : Int) (le : Bool) (W : World) (hC : Kd.C kWn W A l.length l) (hl : l.length ≤ 1048576) (hxl : ∀ x ∈ l, x.f2.length ≤ 1048576) (hxy : Xy l) (hh : Handle W) :
    Calls Tryd.prog 5 #[.slice A l.length c, .agg #[.int .i64 a1, .int .i64 a2], .bool le] W fun e W' => e = .returned (.bool true) ∧ Below W.heap.size W W' := by
  have hu := Tryd.underlying28
  have huh := Tryd.underlying58
  have hmx : Tryd.prog.follows .mixedOrders = true := by kernel_rfl
  have HT := Aside0.mk (treeM_ok hxy)
  obtain ⟨g, hg⟩ : ∃ y, y = treeM l := ⟨_, rfl⟩
  have HGE := Aside0.mk hg
  rw [← hg] at HT
  have HH := Aside0.mk hh
  have HB := Aside0.mk (Below.refl W.heap.size W)
  have HC := Aside0.mk hC
  clear hh hg hC
  go_enter Tryd.func5, Tryd.ntmps5
  go_upto_region 1 with fail
  obtain ⟨gu, hgu_⟩ : ∃ x, x = W.heap.size := ⟨_, rfl⟩
  obtain ⟨W1, hW1_⟩ : ∃ x, x = W.alloc (.cells #[.int .i64 a1, .int .i64 a2] 58) := ⟨_, rfl⟩
  rw [← hW1_, ← hgu_]
  have KU := Aside0.mk (show W1.heap[gu]? = some (.cells #[.int .i64 a1, .int .i64 a2] 58 (0, 0)) by rw [hW1_, hgu_]; exact World.alloc_heap_new _ _)
  have hb_ : Below W.heap.size W W1 := by rw [hW1_]; exact below_alloc (Below.refl _ _) _
  clear hW1_ hgu_
  replace HB := Aside0.mk (below_step HB.out hb_)
  replace HH := Aside0.mk (Handle_below HH.out hb_)
  replace HC := Aside0.mk (Kd.C_below HC.out hb_)
  clear hb_
  go_wp2_with fail
  refine (grown_calls A c l W1 HC.out hl hxl hxy).mono ?_
  rintro e W2 ⟨u, rfl, hcp, hb_⟩
  rw [← HGE.out] at hcp
  obtain ⟨G1, g1_, G2, g2_, G3, g3_, rfl, hig⟩ := hcp.isG
  have IG := Aside0.mk (show IsG W2 (.agg #[.int .i64 g.f0, .slice G1 g.f1.length g1_, .slice G2 g.f2.length g2_, .slice G3 g.f3.length g3_]) g from ⟨G1, g1_, G2, g2_, G3, g3_, rfl, hig⟩)
  clear hcp hig HC
  replace HB := Aside0.mk (below_step HB.out hb_)
  replace HH := Aside0.mk (Handle_below HH.out hb_)
  replace KU := Aside0.mk (blk_below KU.out hb_)
  clear hb_
  go_upto_region 2 with fail
  obtain ⟨gl, hgl_⟩ : ∃ x, x = W2.heap.size := ⟨_, rfl⟩
  obtain ⟨W3, hW3_⟩ : ∃ x, x = W2.alloc (.cells #[.int .i64 g.f0, .slice G1 g.f1.length g1_, .slice G2 g.f2.length g2_, .slice G3 g.f3.length g3_] 28) := ⟨_, rfl⟩
  rw [← hW3_, ← hgl_]
  have KG := Aside0.mk (show W3.heap[gl]? = some (.cells #[.int .i64 g.f0, .slice G1 g.f1.length g1_, .slice G2 g.f2.length g2_, .slice G3 g.f3.length g3_] 28 (0, 0)) by rw [hW3_, hgl_]; exact World.alloc_heap_new _ _)
  have hb_ : Below W2.heap.size W2 W3 := by rw [hW3_]; exact below_alloc (Below.refl _ _) _
  clear hW3_ hgl_
  replace HB := Aside0.mk (below_step HB.out hb_)
  replace HH := Aside0.mk (Handle_below HH.out hb_)
  replace KU := Aside0.mk (blk_below KU.out hb_)
  replace IG := Aside0.mk (IG.out.below hb_)
  clear hb_
  have zG0_ : W3.cell? ⟨gl, 0, none⟩ = some (.int .i64 g.f0) := (blk_cell KG.out 0).trans rfl
  have zG1_ : W3.cell? ⟨gl, 1, none⟩ = some (.slice G1 g.f1.length g1_) := (blk_cell KG.out 1).trans rfl
  have zG2_ : W3.cell? ⟨gl, 2, none⟩ = some (.slice G2 g.f2.length g2_) := (blk_cell KG.out 2).trans rfl
  have zG3_ : W3.cell? ⟨gl, 3, none⟩ = some (.slice G3 g.f3.length g3_) := (blk_cell KG.out 3).trans rfl
  go_wp2_with fail
  clear zG0_ zG1_ zG2_ zG3_
  refine (alive_calls W3).mono ?_
  rintro e W4 ⟨rfl, hb_⟩
  replace HB := Aside0.mk (below_step HB.out hb_)
  replace HH := Aside0.mk (Handle_below HH.out hb_)
  replace KU := Aside0.mk (blk_below KU.out hb_)
  replace IG := Aside0.mk (IG.out.below hb_)
  replace KG := Aside0.mk (blk_below KG.out hb_)
  clear hb_
  have zG0_ : W4.cell? ⟨gl, 0, none⟩ = some (.int .i64 g.f0) := (blk_cell KG.out 0).trans rfl
  have zG1_ : W4.cell? ⟨gl, 1, none⟩ = some (.slice G1 g.f1.length g1_) := (blk_cell KG.out 1).trans rfl
  have zG2_ : W4.cell? ⟨gl, 2, none⟩ = some (.slice G2 g.f2.length g2_) := (blk_cell KG.out 2).trans rfl
  have zG3_ : W4.cell? ⟨gl, 3, none⟩ = some (.slice G3 g.f3.length g3_) := (blk_cell KG.out 3).trans rfl
  go_wp2_with fail
  clear zG0_ zG1_ zG2_ zG3_
  refine (print_calls _ g le W4 IG.out (by have := HT.out.2.2.1; omega)).mono ?_
  rintro e W5 ⟨u, er, rfl, hR, hE, hb_⟩
  rw [mixedB, if_pos HT.out.2.2.2] at hR
  rw [HT.out.2.2.2] at hE
  obtain rfl : er = .nilIface := hE
  obtain ⟨b, hbdef⟩ : ∃ y, y = geoB [le] g 0 := ⟨_, rfl⟩
  rw [← hbdef] at hR
  have HBY := Aside0.mk (show Byt b by rw [hbdef]; exact (byt_geo [le] g.bulk).1 g 0 (Nat.le_refl _))
  have hbl : b.length ≤ 1048576 := by have := (geoB_le [le] g 0).1; have := HT.out.2.2.1; rw [hbdef]; omega
  have hb9 : 9 ≤ b.length := by rw [hbdef]; exact (geoB_ge _ _ _).1
  obtain ⟨D, d, e2_⟩ := Kd.R_slice hR
  subst e2_
  have RB := Aside0.mk (Kd.R_reads' hR).2
  clear hR hbdef
  replace HB := Aside0.mk (below_step HB.out hb_)
  replace HH := Aside0.mk (Handle_below HH.out hb_)
  replace KU := Aside0.mk (blk_below KU.out hb_)
  replace IG := Aside0.mk (IG.out.below hb_)
  replace KG := Aside0.mk (blk_below KG.out hb_)
  clear hb_
  have zG0_ : W5.cell? ⟨gl, 0, none⟩ = some (.int .i64 g.f0) := (blk_cell KG.out 0).trans rfl
  have zG1_ : W5.cell? ⟨gl, 1, none⟩ = some (.slice G1 g.f1.length g1_) := (blk_cell KG.out 1).trans rfl
  have zG2_ : W5.cell? ⟨gl, 2, none⟩ = some (.slice G2 g.f2.length g2_) := (blk_cell KG.out 2).trans rfl
  have zG3_ : W5.cell? ⟨gl, 3, none⟩ = some (.slice G3 g.f3.length g3_) := (blk_cell KG.out 3).trans rfl
  by_cases hbig : 65536 < (b.length : Int)
  · go_wp2_with fail
    go_ret
    exact ⟨rfl, HB.out⟩
  have hbig' : b.length ≤ 65536 := by omega
  go_upto_region 7 with fail
  clear zG0_ zG1_ zG2_ zG3_
  go_upto_region 8 with (first | ((with_reducible refine gate_dst (N := 45) rfl ?_); refine Kd.R_lit (Kd.int .u8) (w0 := W5) W5.heap.size 5 ?hg (N := 45) ?hd (xs := ([] : List Int)) (inner := []) (ok := fun _ => True) (okp := fun _ => True) ?hr ?hp (fun _ hk => hk) trivial (Below.refl _ _) (Nat.le_refl _) (by simp) ?_; (case hd => rfl); (case hg => rfl); (case hr => first | (go_simp; done) | (go_simp; rfl)); (case hp => exact (Reps.none _ _)); intro v45 w45 ho45 hb45 hg45 hn45; have O45 := Aside0.mk (And.intro ho45 hb45); clear ho45 hb45 hg45 hn45) | ((with_reducible refine gate_builtin (b := .append) (xs := #[.tmp 45, .tmp 46]) rfl ?_); at_builtin; refine Kd.R_append_rows (Kd.int .u8) (w0 := W5) W5.heap.size rfl (.tmp 45) (.tmp 46) 22 5 (.int .u8 0) 1 rfl Tryd.underlying22 info5b rfl (by decide) (by omega) v45 [] b D b.length d (fun _ => True) (fun _ => False) rfl rfl ?aO ?aR (fun _ _ h => h) (fun _ h => h.elim) ?aF ?aB ?aS ?aL ?_; (case aO => exact O45.out.1); (case aR => exact (Kd.C_below RB.out.2 O45.out.2)); (case aF => exact (fun _ _ => trivial)); (case aB => exact O45.out.2); (case aS => exact O45.out.2.size); (case aL => first | (simp; omega) | omega); intro v47 w47 ho47 hb47 hg47 hat47; have O47 := Aside0.mk (And.intro ho47 hb47); clear ho47 hb47 hg47 hat47))
  rw [List.nil_append] at O47
  have hR := O47.out.1
  have hb_ := O47.out.2
  obtain ⟨gc, cc, e47, -, -, -⟩ := Kd.R_form hR (by omega)
  subst e47
  clear O45 O47
  clear RB
  obtain ⟨w0, hw0⟩ : ∃ y, y = W5 := ⟨_, rfl⟩
  have KW := Aside0.mk (show Below w0.heap.size w0 w47 by rw [hw0]; exact hb_)
  have HH0 := Aside0.mk (show Handle w0 by rw [hw0]; exact HH.out)
  have HB0 := Aside0.mk (show Below W.heap.size W w0 by rw [hw0]; exact HB.out)
  rw [← hw0] at hR
  have RC := Aside0.mk hR
  clear hR hw0 HH HB IG KG
  replace KU := Aside0.mk (blk_below KU.out hb_)
  clear hb_
  have zU0_ : w47.cell? ⟨gu, 0, none⟩ = some (.int .i64 a1) := (blk_cell KU.out 0).trans rfl
  have zU1_ : w47.cell? ⟨gu, 1, none⟩ = some (.int .i64 a2) := (blk_cell KU.out 1).trans rfl
  go_wp2_with fail
  clear zU0_ zU1_
  refine (intoM_calls a1 (b.length : Int) (by omega) (by omega) w47).mono ?_
  rintro e W6 ⟨rfl, hb_⟩
  have hkr := intoN_range a1 (b.length : Int) (by omega)
  obtain ⟨k, hk⟩ : ∃ k : Nat, (k : Int) = intoN a1 (b.length : Int) := ⟨(intoN a1 (b.length : Int)).toNat, by omega⟩
  rw [← hk] at hkr ⊢
  clear hk
  have hkl : k < b.length := by omega
  replace KU := Aside0.mk (blk_below KU.out hb_)
  replace RC := Aside0.mk (Kd.R_below RC.out hb_)
  replace KW := Aside0.mk (below_step KW.out hb_)
  clear hb_
  have zU0_ : W6.cell? ⟨gu, 0, none⟩ = some (.int .i64 a1) := (blk_cell KU.out 0).trans rfl
  have zU1_ : W6.cell? ⟨gu, 1, none⟩ = some (.int .i64 a2) := (blk_cell KU.out 1).trans rfl
  go_upto_region 9 with fail
  clear zU0_ zU1_
  obtain ⟨m, hm⟩ : ∃ m, m = intoN a2 255 := ⟨_, rfl⟩
  have HM := Aside0.mk hm
  have hmr : 0 ≤ m ∧ m < 255 := by rw [hm]; exact intoN_range a2 255 (by omega)
  have hm0 := hmr.1
  have hm1 := hmr.2
  clear hm hmr
  obtain ⟨x, hx⟩ : ∃ x, x = b.getD k 0 := ⟨_, rfl⟩
  have hcx := byte_cell RC.out k hkl
  rw [← hx] at hcx
  have HX := Aside0.mk hx
  clear hx
  have hw1 : IntKind.i64.wrap (1 + m) = 1 + m := by rw [IntKind.wrap_i64]; omega
  have hkl' : (k : Int) < (b.length : Int) := by omega
  refine start_ (n := 14) (S := fun w' => w'.cell? ⟨gc, k, none⟩ = some (.int .u8 x) ∧ w'.cell? ⟨gu, 1, none⟩ = some (.int .i64 a2) ∧ True) (ds := [13]) #[false, false, false, false, false, false, false, false, false, false, false, false, false, false] hmx rfl rfl ⟨hcx, (blk_cell (w := W6.drew) KU.out 1).trans rfl, trivial⟩ (fun hHeld => ?_)
  clear hcx
  have hb_ : Below W6.heap.size W6 W6.drew := below_drew (Below.refl _ _)
  replace KU := Aside0.mk (blk_below KU.out hb_)
  replace RC := Aside0.mk (Kd.R_below RC.out hb_)
  replace KW := Aside0.mk (below_step KW.out hb_)
  clear hb_
  generalize W6.drew = W7 at KU RC KW hHeld ⊢
  (refine pure_ (i := 0) (N := some 53) (v := ?_) (a' := ?_) #[true, false, false, false, false, false, false, false, false, false, false, false, false, false] rfl rfl (by kernel_rfl) (fun _ _ _ h => h) (Or.inl ⟨by rfl, ?_⟩) ?_ ?_; rotate_left; (focus (intro w'_; go_simp; with_reducible rfl)); rotate_left; (focus (simp only [Act.put, List.setIfInBounds_toArray, List.set_cons_zero, List.set_cons_succ]; rfl)))
  (refine pure_ (i := 1) (N := some 54) (v := ?_) (a' := ?_) #[true, true, false, false, false, false, false, false, false, false, false, false, false, false] rfl rfl (by kernel_rfl) (fun _ _ _ h => h) (Or.inl ⟨by rfl, ?_⟩) ?_ ?_; rotate_left; (focus (intro w'_; go_simp; with_reducible rfl)); rotate_left; (focus (simp only [Act.put, List.setIfInBounds_toArray, List.set_cons_zero, List.set_cons_succ]; rfl)))
  (refine pure_ (i := 2) (N := some 55) (v := ?_) (a' := ?_) #[true, true, true, false, false, false, false, false, false, false, false, false, false, false] rfl rfl (by kernel_rfl) (fun _ _ _ h => h) (Or.inl ⟨by rfl, ?_⟩) ?_ ?_; rotate_left; (focus (intro w'_; go_simp; with_reducible rfl)); rotate_left; (focus (simp only [Act.put, List.setIfInBounds_toArray, List.set_cons_zero, List.set_cons_succ]; rfl)))
  (refine pure_ (i := 3) (N := some 56) (v := ?_) (a' := ?_) #[true, true, true, true, false, false, false, false, false, false, false, false, false, false] rfl rfl (by kernel_rfl) (fun _ _ _ h => h) (Or.inl ⟨by rfl, ?_⟩) ?_ ?_; rotate_left; (focus (intro w'_; go_simp; with_reducible rfl)); rotate_left; (focus (simp only [Act.put, List.setIfInBounds_toArray, List.set_cons_zero, List.set_cons_succ]; rfl)))
  (refine pure_ (i := 4) (N := some 57) (v := ?_) (a' := ?_) #[true, true, true, true, true, false, false, false, false, false, false, false, false, false] rfl rfl (by kernel_rfl) (fun _ _ _ h => h) (Or.inl ⟨by rfl, ?_⟩) ?_ ?_; rotate_left; (focus (intro w'_; go_simp; with_reducible rfl)); rotate_left; (focus (simp only [Act.put, List.setIfInBounds_toArray, List.set_cons_zero, List.set_cons_succ]; rfl)))
  (refine pure_ (i := 6) (N := some 59) (v := ?_) (a' := ?_) #[true, true, true, true, true, false, true, false, false, false, false, false, false, false] rfl rfl (by kernel_rfl) (fun _ _ _ h => h) (Or.inl ⟨by rfl, ?_⟩) ?_ ?_; rotate_left; (focus (intro w'_; go_simp; with_reducible rfl)); rotate_left; (focus (simp only [Act.put, List.setIfInBounds_toArray, List.set_cons_zero, List.set_cons_succ]; rfl)))
  (refine take_ (i := 5) (N := some 58) (v := ?_) (a' := ?_) #[true, true, true, true, true, true, true, false, false, false, false, false, false, false] rfl rfl (by kernel_rfl) (fun _ _ _ h => h) (Or.inl ⟨by rfl, ?_⟩) hHeld ?_ ?_; rotate_left; (focus (intro w'_ hs_; (repeat obtain ⟨_, hs_⟩ := hs_); go_simp; with_reducible rfl)); rotate_left; (focus (simp only [Act.put, List.setIfInBounds_toArray, List.set_cons_zero, List.set_cons_succ]; rfl)))
  (refine take_ (i := 7) (N := some 60) (v := ?_) (a' := ?_) #[true, true, true, true, true, true, true, true, false, false, false, false, false, false] rfl rfl (by kernel_rfl) (fun _ _ _ h => h) (Or.inl ⟨by rfl, ?_⟩) hHeld ?_ ?_; rotate_left; (focus (intro w'_ hs_; (repeat obtain ⟨_, hs_⟩ := hs_); go_simp; with_reducible rfl)); rotate_left; (focus (simp only [Act.put, List.setIfInBounds_toArray, List.set_cons_zero, List.set_cons_succ]; rfl)))
  refine one_ (i := 8) (N := some 61) #[true, true, true, true, true, true, true, true, true, false, false, false, false, false] rfl rfl (by kernel_rfl) (by decide) (fun K hK => ?_)
  refine goes_ Tryd.func28 (by kernel_rfl) rfl #[.int .i64 a2, .int .i64 255] (by rfl) rfl rfl (by (try simp only [List.map_toArray, List.map_cons, List.map_nil]); first | done | rfl) ?_
  refine (intoM_calls a2 255 (by omega) (by omega) W7).mono ?_
  rintro e W8 ⟨rfl, hb_⟩
  rw [← HM.out]
  replace KU := Aside0.mk (blk_below KU.out hb_)
  replace RC := Aside0.mk (Kd.R_below RC.out hb_)
  replace KW := Aside0.mk (below_step KW.out hb_)
  clear hb_
  have hcx := byte_cell RC.out k hkl
  rw [← HX.out] at hcx
  refine ⟨_, rfl, hK.out _ _ ⟨hcx, (blk_cell KU.out 1).trans rfl, trivial⟩ (fun hHeld2 => ?_)⟩
  clear hK K hHeld hcx
  (refine norm_ (a' := ?_) ?_ ?_; rotate_left; focus (show Act.put _ (some 61) _ = _; simp only [Act.put, List.setIfInBounds_toArray, List.set_cons_zero, List.set_cons_succ]; rfl))
  (refine pure_ (i := 9) (N := some 62) (v := ?_) (a' := ?_) #[true, true, true, true, true, true, true, true, true, true, false, false, false, false] rfl rfl (by kernel_rfl) (fun _ _ _ h => h) (Or.inl ⟨by rfl, ?_⟩) ?_ ?_; rotate_left; (focus (intro w'_; go_simp; with_reducible rfl)); rotate_left; (focus (simp only [Act.put, List.setIfInBounds_toArray, List.set_cons_zero, List.set_cons_succ]; rfl)))
  (refine pure_ (i := 10) (N := some 63) (v := ?_) (a' := ?_) #[true, true, true, true, true, true, true, true, true, true, true, false, false, false] rfl rfl (by kernel_rfl) (fun _ _ _ h => h) (Or.inl ⟨by rfl, ?_⟩) ?_ ?_; rotate_left; (focus (intro w'_; go_simp; with_reducible rfl)); rotate_left; (focus (simp only [Act.put, List.setIfInBounds_toArray, List.set_cons_zero, List.set_cons_succ]; rfl)))
  (refine pure_ (i := 11) (N := some 64) (v := ?_) (a' := ?_) #[true, true, true, true, true, true, true, true, true, true, true, true, false, false] rfl rfl (by kernel_rfl) (fun _ _ _ h => h) (Or.inl ⟨by rfl, ?_⟩) ?_ ?_; rotate_left; (focus (intro w'_; go_simp; with_reducible rfl)); rotate_left; (focus (simp only [Act.put, List.setIfInBounds_toArray, List.set_cons_zero, List.set_cons_succ]; rfl)))
  (refine pure_ (i := 12) (N := some 65) (v := ?_) (a' := ?_) #[true, true, true, true, true, true, true, true, true, true, true, true, true, false] rfl rfl (by kernel_rfl) (fun _ _ _ h => h) (Or.inl ⟨by rfl, ?_⟩) ?_ ?_; rotate_left; (focus (intro w'_; go_simp; with_reducible rfl)); rotate_left; (focus (simp only [Act.put, List.setIfInBounds_toArray, List.set_cons_zero, List.set_cons_succ]; rfl)))
  refine last_ (i := 13) (N := none) #[true, true, true, true, true, true, true, true, true, true, true, true, true, true] rfl rfl (by kernel_rfl) (by decide) (fun K hK => ?_)
  have hcb := Kd.R_cell 0 RC.out (k : Int) (by omega) (by omega)
  have z2 : W8.cell? ⟨gc, k, none⟩ = some (.int .u8 (rdOf 0 b (k : Int))) := hcb.1
  have y2 : W8.frozen? ⟨gc, k, none⟩ = false := hcb.2
  clear hcb
  refine skip_ (w1 := ?_) (by rfl) rfl ?_ ?_
  rotate_left
  · go_simp
    rfl
  refine hK.out _ _ ?_
  clear hK K
  refine done_ (by kernel_rfl) ?_
  clear hHeld2
  generalize hy : Go.bits .xor .u8 x (IntKind.u8.wrap (1 + m)) = y
  obtain ⟨B, hB⟩ : ∃ z, z = b.set k y := ⟨_, rfl⟩
  have hBY := byt_set HBY.out k (xor_byt x (IntKind.u8.wrap (1 + m))).1 (xor_byt x (IntKind.u8.wrap (1 + m))).2
  rw [hy, ← hB] at hBY
  have hBl : B.length = b.length := by rw [hB, List.length_set]
  obtain ⟨W9, hW9⟩ : ∃ z, z = W8.setCell ⟨gc, k, none⟩ (.int .u8 y) := ⟨_, rfl⟩
  rw [← hW9]
  have hr9 := (Kd.R_put RC.out (k : Int) y).1
  rw [Int.toNat_natCast, ← hB, ← hW9] at hr9
  rw [← hBl] at hr9 hbl hb9 hbig' ⊢
  have KW9 := Aside0.mk (show Below w0.heap.size w0 W9 by rw [hW9]; exact KW.out.setCell (p := ⟨gc, k, none⟩) (Kd.R_base RC.out gc rfl) _)
  have RC9 := Aside0.mk hr9
  have HY9 := Aside0.mk hBY
  clear hr9 hBY hW9 KW RC HBY hBl z2 y2 hy hw1 hm0 hm1 hkr hkl hkl' hB hbig KU HM HX
  have hBc : B.length ≤ cc := (Kd.R_reads' RC9.out).2.1

  rcases parsed_cases B 256 65536 with ⟨p, ec, hpr⟩ | ⟨h, os, hpr⟩
  · have hgn := parsed_gone HY9.out hpr
    obtain ⟨hp0, hp1⟩ := hgn
    dsimp only at hp0 hp1
    go_wp2_with fail
    refine (parse_err (some ⟨gc, 0, none⟩) cc B 256 65536 W9 (p, ec) (Kd.R_reads' RC9.out).2.2 hBc hbl hpr).mono ?_
    rintro e W20 ⟨gep, rfl, hev_, hb_⟩
    have EP := Aside0.mk hev_
    clear hev_
    replace KW9 := Aside0.mk (below_step KW9.out hb_)
    replace RC9 := Aside0.mk (Kd.R_below RC9.out hb_)
    clear hb_
    clear hpr
    go_upto_region 11 with fail
    obtain ⟨gp, hgp_⟩ : ∃ x, x = W20.heap.size := ⟨_, rfl⟩
    obtain ⟨W21, hW21_⟩ : ∃ x, x = W20.alloc (.cells #[.int .i64 0, .slice none 0 0, .slice none 0 0, .slice none 0 0] 28) := ⟨_, rfl⟩
    rw [← hW21_, ← hgp_]
    have KP := Aside0.mk (show W21.heap[gp]? = some (.cells #[.int .i64 0, .slice none 0 0, .slice none 0 0, .slice none 0 0] 28 (0, 0)) by rw [hW21_, hgp_]; exact World.alloc_heap_new _ _)
    have hb_ : Below W20.heap.size W20 W21 := by rw [hW21_]; exact below_alloc (Below.refl _ _) _
    clear hW21_ hgp_
    replace KW9 := Aside0.mk (below_step KW9.out hb_)
    replace RC9 := Aside0.mk (Kd.R_below RC9.out hb_)
    replace EP := Aside0.mk (ErrV.below EP.out hb_)
    clear hb_
    have zP0_ : W21.cell? ⟨gp, 0, none⟩ = some (.int .i64 0) := (blk_cell KP.out 0).trans rfl
    have zP1_ : W21.cell? ⟨gp, 1, none⟩ = some (.slice none 0 0) := (blk_cell KP.out 1).trans rfl
    have zP2_ : W21.cell? ⟨gp, 2, none⟩ = some (.slice none 0 0) := (blk_cell KP.out 2).trans rfl
    have zP3_ : W21.cell? ⟨gp, 3, none⟩ = some (.slice none 0 0) := (blk_cell KP.out 3).trans rfl
    go_wp2_with fail
    clear zP0_ zP1_ zP2_ zP3_
    refine (zero_no W21).mono ?_
    rintro e W22 ⟨rfl, hb_⟩
    replace KW9 := Aside0.mk (below_step KW9.out hb_)
    replace RC9 := Aside0.mk (Kd.R_below RC9.out hb_)
    replace EP := Aside0.mk (ErrV.below EP.out hb_)
    replace KP := Aside0.mk (blk_below KP.out hb_)
    clear hb_
    have zP0_ : W22.cell? ⟨gp, 0, none⟩ = some (.int .i64 0) := (blk_cell KP.out 0).trans rfl
    have zP1_ : W22.cell? ⟨gp, 1, none⟩ = some (.slice none 0 0) := (blk_cell KP.out 1).trans rfl
    have zP2_ : W22.cell? ⟨gp, 2, none⟩ = some (.slice none 0 0) := (blk_cell KP.out 2).trans rfl
    have zP3_ : W22.cell? ⟨gp, 3, none⟩ = some (.slice none 0 0) := (blk_cell KP.out 3).trans rfl
    go_wp2_with fail
    clear zP0_ zP1_ zP2_ zP3_
    refine (Place_calls _ (some (p, ec)) W22 (Handle_below HH0.out KW9.out) EP.out).mono ?_
    rintro e W23 ⟨rfl, hb_⟩
    rw [show placeOf (some (p, ec)) = p from rfl]
    replace KW9 := Aside0.mk (below_step KW9.out hb_)
    replace RC9 := Aside0.mk (Kd.R_below RC9.out hb_)
    replace EP := Aside0.mk (ErrV.below EP.out hb_)
    replace KP := Aside0.mk (blk_below KP.out hb_)
    clear hb_
    have zP0_ : W23.cell? ⟨gp, 0, none⟩ = some (.int .i64 0) := (blk_cell KP.out 0).trans rfl
    have zP1_ : W23.cell? ⟨gp, 1, none⟩ = some (.slice none 0 0) := (blk_cell KP.out 1).trans rfl
    have zP2_ : W23.cell? ⟨gp, 2, none⟩ = some (.slice none 0 0) := (blk_cell KP.out 2).trans rfl
    have zP3_ : W23.cell? ⟨gp, 3, none⟩ = some (.slice none 0 0) := (blk_cell KP.out 3).trans rfl
    go_wp2_with fail
    clear zP0_ zP1_ zP2_ zP3_
    refine (Place_calls _ (some (p, ec)) W23 (Handle_below HH0.out KW9.out) EP.out).mono ?_
    rintro e W24 ⟨rfl, hb_⟩
    rw [show placeOf (some (p, ec)) = p from rfl]
    replace KW9 := Aside0.mk (below_step KW9.out hb_)
    replace RC9 := Aside0.mk (Kd.R_below RC9.out hb_)
    replace EP := Aside0.mk (ErrV.below EP.out hb_)
    replace KP := Aside0.mk (blk_below KP.out hb_)
    clear hb_
    have zP0_ : W24.cell? ⟨gp, 0, none⟩ = some (.int .i64 0) := (blk_cell KP.out 0).trans rfl
    have zP1_ : W24.cell? ⟨gp, 1, none⟩ = some (.slice none 0 0) := (blk_cell KP.out 1).trans rfl
    have zP2_ : W24.cell? ⟨gp, 2, none⟩ = some (.slice none 0 0) := (blk_cell KP.out 2).trans rfl
    have zP3_ : W24.cell? ⟨gp, 3, none⟩ = some (.slice none 0 0) := (blk_cell KP.out 3).trans rfl
    go_wp2_with fail
    go_ret
    exact ⟨by simp [hp0, hp1], below_step HB0.out KW9.out⟩
  have HK := Aside0.mk (back_walk2 HY9.out hpr)
  have HPR := Aside0.mk hpr
  clear hpr
  go_wp2_with fail
  refine (parse_ok (some ⟨gc, 0, none⟩) cc B 256 65536 W9 h os (Kd.R_reads' RC9.out).2.2 hBc hbl HPR.out).mono ?_
  rintro e W20 ⟨X1, x1_, X2, x2_, X3, x3_, rfl, hcp, hb_⟩
  have IX := Aside0.mk (CopyOf.isG hcp)
  clear hcp
  replace KW9 := Aside0.mk (below_step KW9.out hb_)
  replace RC9 := Aside0.mk (Kd.R_below RC9.out hb_)
  clear hb_
  go_upto_region 11 with fail
  obtain ⟨gx, hgx_⟩ : ∃ x, x = W20.heap.size := ⟨_, rfl⟩
  obtain ⟨W21, hW21_⟩ : ∃ x, x = W20.alloc (.cells #[.int .i64 h.f0, .slice X1 h.f1.length x1_, .slice X2 h.f2.length x2_, .slice X3 h.f3.length x3_] 28) := ⟨_, rfl⟩
  rw [← hW21_, ← hgx_]
  have KX := Aside0.mk (show W21.heap[gx]? = some (.cells #[.int .i64 h.f0, .slice X1 h.f1.length x1_, .slice X2 h.f2.length x2_, .slice X3 h.f3.length x3_] 28 (0, 0)) by rw [hW21_, hgx_]; exact World.alloc_heap_new _ _)
  have hb_ : Below W20.heap.size W20 W21 := by rw [hW21_]; exact below_alloc (Below.refl _ _) _
  clear hW21_ hgx_
  replace KW9 := Aside0.mk (below_step KW9.out hb_)
  replace RC9 := Aside0.mk (Kd.R_below RC9.out hb_)
  replace IX := Aside0.mk (IX.out.below hb_)
  clear hb_
  have zX0_ : W21.cell? ⟨gx, 0, none⟩ = some (.int .i64 h.f0) := (blk_cell KX.out 0).trans rfl
  have zX1_ : W21.cell? ⟨gx, 1, none⟩ = some (.slice X1 h.f1.length x1_) := (blk_cell KX.out 1).trans rfl
  have zX2_ : W21.cell? ⟨gx, 2, none⟩ = some (.slice X2 h.f2.length x2_) := (blk_cell KX.out 2).trans rfl
  have zX3_ : W21.cell? ⟨gx, 3, none⟩ = some (.slice X3 h.f3.length x3_) := (blk_cell KX.out 3).trans rfl
  go_wp2_with fail
  clear zX0_ zX1_ zX2_ zX3_
  refine (orders_calls (some ⟨gc, 0, none⟩) cc B W21 (Kd.R_reads' RC9.out).2.2 hBc hbl).mono ?_
  rintro e W22 ⟨v, ev, rfl, hb_, hE, hO⟩
  obtain ⟨rfl, hR⟩ := hO _ HPR.out
  dsimp only at hR
  obtain ⟨O, co, e2_⟩ := Kd.R_slice hR
  subst e2_
  have RO := Aside0.mk (Kd.R_reads' hR).2
  clear hR hE hO
  replace KW9 := Aside0.mk (below_step KW9.out hb_)
  replace RC9 := Aside0.mk (Kd.R_below RC9.out hb_)
  replace IX := Aside0.mk (IX.out.below hb_)
  replace KX := Aside0.mk (blk_below KX.out hb_)
  clear hb_
  have zX0_ : W22.cell? ⟨gx, 0, none⟩ = some (.int .i64 h.f0) := (blk_cell KX.out 0).trans rfl
  have zX1_ : W22.cell? ⟨gx, 1, none⟩ = some (.slice X1 h.f1.length x1_) := (blk_cell KX.out 1).trans rfl
  have zX2_ : W22.cell? ⟨gx, 2, none⟩ = some (.slice X2 h.f2.length x2_) := (blk_cell KX.out 2).trans rfl
  have zX3_ : W22.cell? ⟨gx, 3, none⟩ = some (.slice X3 h.f3.length x3_) := (blk_cell KX.out 3).trans rfl
  go_wp2_with fail
  clear zX0_ zX1_ zX2_ zX3_
  refine (mixed_calls _ h O co os W22 IX.out RO.out.2 (by have := HK.out.2.1; omega) (by have := HK.out.2.2.2.1; omega)).mono ?_
  rintro e W23 ⟨u, er, rfl, hR, hE, hb_⟩
  rw [mixedB, if_pos HK.out.1] at hR
  rw [HK.out.1] at hE
  obtain rfl : er = .nilIface := hE
  obtain ⟨Q, hQ⟩ : ∃ z, z = geoB os h 0 := ⟨_, rfl⟩
  rw [← hQ] at hR
  have hQl : Q.length = B.length := by rw [hQ]; exact HK.out.2.2.2.2.1
  obtain ⟨E, e_, e2_⟩ := Kd.R_slice hR
  subst e2_
  have RQ := Aside0.mk (Kd.R_reads' hR).2
  have HQ := Aside0.mk hQ
  have HQL := Aside0.mk hQl
  rw [hQl] at RQ ⊢
  clear hR hQ hQl
  replace KW9 := Aside0.mk (below_step KW9.out hb_)
  replace RC9 := Aside0.mk (Kd.R_below RC9.out hb_)
  replace IX := Aside0.mk (IX.out.below hb_)
  replace KX := Aside0.mk (blk_below KX.out hb_)
  replace RO := Aside0.mk (And.intro RO.out.1 (Kd.C_below RO.out.2 hb_))
  clear hb_
  have zX0_ : W23.cell? ⟨gx, 0, none⟩ = some (.int .i64 h.f0) := (blk_cell KX.out 0).trans rfl
  have zX1_ : W23.cell? ⟨gx, 1, none⟩ = some (.slice X1 h.f1.length x1_) := (blk_cell KX.out 1).trans rfl
  have zX2_ : W23.cell? ⟨gx, 2, none⟩ = some (.slice X2 h.f2.length x2_) := (blk_cell KX.out 2).trans rfl
  have zX3_ : W23.cell? ⟨gx, 3, none⟩ = some (.slice X3 h.f3.length x3_) := (blk_cell KX.out 3).trans rfl
  go_upto_region 17 with fail
  clear zX0_ zX1_ zX2_ zX3_
  go_upto_region 18 with (first | ((with_reducible refine gate_dst (N := 111) rfl ?_); refine Kd.R_lit (Kd.int .u8) (w0 := W23) W23.heap.size 5 ?hg (N := 111) ?hd (xs := ([] : List Int)) (inner := []) (ok := fun _ => True) (okp := fun _ => True) ?hr ?hp (fun _ hk => hk) trivial (Below.refl _ _) (Nat.le_refl _) (by simp) ?_; (case hd => rfl); (case hg => rfl); (case hr => first | (go_simp; done) | (go_simp; rfl)); (case hp => exact (Reps.none _ _)); intro v111 w111 ho111 hb111 hg111 hn111; have O111 := Aside0.mk (And.intro ho111 hb111); clear ho111 hb111 hg111 hn111) | ((with_reducible refine gate_builtin (b := .append) (xs := #[.tmp 111, .tmp 112]) rfl ?_); at_builtin; refine Kd.R_append_rows (Kd.int .u8) (w0 := W23) W23.heap.size rfl (.tmp 111) (.tmp 112) 22 5 (.int .u8 0) 1 rfl Tryd.underlying22 info5b rfl (by decide) (by omega) v111 [] B (some ⟨gc, 0, none⟩) B.length cc (fun _ => True) (fun _ => False) rfl rfl ?aO ?aR (fun _ _ h => h) (fun _ h => h.elim) ?aF ?aB ?aS ?aL ?_; (case aO => exact O111.out.1); (case aR => exact (Kd.C_below (Kd.R_reads' RC9.out).2.2 O111.out.2)); (case aF => exact (fun _ _ => trivial)); (case aB => exact O111.out.2); (case aS => exact O111.out.2.size); (case aL => first | (simp; omega) | omega); intro v113 w113 ho113 hb113 hg113 hat113; obtain ⟨gb, cb, e113, hgb1, hgb2, -⟩ := Kd.R_form ho113 (by simp only [List.nil_append]; omega); subst e113; have O113 := Aside0.mk (And.intro ho113 hb113); clear ho113 hb113 hg113 hat113))
  obtain ⟨w1, hw1⟩ : ∃ z, z = W23 := ⟨_, rfl⟩
  have IX1 := Aside0.mk (show IsG w1 (.agg #[.int .i64 h.f0, .slice X1 h.f1.length x1_, .slice X2 h.f2.length x2_, .slice X3 h.f3.length x3_]) h by rw [hw1]; exact IX.out)
  have RQ1 := Aside0.mk (show Q.length ≤ e_ ∧ kB.C w1 E Q.length Q by rw [hw1, HQL.out]; exact RQ.out)
  have KW1 := Aside0.mk (show Below w0.heap.size w0 w1 by rw [hw1]; exact KW9.out)
  have hR := O113.out.1
  have hb_ := O113.out.2
  simp only [List.nil_append] at hR ⊢
  rw [← hw1] at hR
  have KX1 := Aside0.mk (blk_below KX.out hb_)
  rw [← hw1] at hb_
  obtain ⟨gf, hgf⟩ : ∃ z, z = w113.heap.size := ⟨_, rfl⟩
  obtain ⟨W5, hW5⟩ : ∃ z, z = w113.alloc (.cells #[.slice (some ⟨gb, 0, none⟩) B.length cb, .int .i64 0] 67) := ⟨_, rfl⟩
  rw [← hW5, ← hgf]
  have hbz : Below w113.heap.size w113 W5 := by rw [hW5]; exact below_alloc (Below.refl _ _) _
  have HF := Aside0.mk (show Fi w1 W5 W5 gf gb cb B 0 from ⟨by rw [hW5, hgf]; exact World.alloc_heap_new _ _, Kd.R_below hR hbz, by rw [hgf]; exact hb_.size, below_step hb_ hbz, Kw.refl _ _ _⟩)
  have KX5 := Aside0.mk (blk_below KX1.out hbz)
  have HG5 := Aside0.mk (show gx ≠ gf ∧ gx ≠ gb from ⟨by have := blk_lt KX1.out; omega, by have h8 := blk_lt KX.out; omega⟩)
  clear hR hb_ hbz hW5 hw1 hgf hgb1 hgb2 O111 O113 KX KX1 IX RQ KW9 RC9 RO
  have zX0_ : W5.cell? ⟨gx, 0, none⟩ = some (.int .i64 h.f0) := (blk_cell KX5.out 0).trans rfl
  have zX1_ : W5.cell? ⟨gx, 1, none⟩ = some (.slice X1 h.f1.length x1_) := (blk_cell KX5.out 1).trans rfl
  have zX2_ : W5.cell? ⟨gx, 2, none⟩ = some (.slice X2 h.f2.length x2_) := (blk_cell KX5.out 2).trans rfl
  have zX3_ : W5.cell? ⟨gx, 3, none⟩ = some (.slice X3 h.f3.length x3_) := (blk_cell KX5.out 3).trans rfl
  go_wp2_with fail
  refine (fwalk_calls h.bulk _ h w1 W5 W5 gf gb cb B 0 IX1.out (Nat.le_refl _) (by have := HK.out.2.1; omega) hbl (by have := HK.out.2.2.1; omega) HF.out).mono ?_
  rintro e W6 ⟨rfl, hF6⟩
  rw [HK.out.2.2.2.2.2.1, HK.out.2.2.2.2.2.2, ← HQ.out] at hF6
  have HF6 := Aside0.mk hF6
  have hQl := HQL.out
  have z0 : W6.cell? ⟨gf, 0, none⟩ = some (.slice (some ⟨gb, 0, none⟩) B.length cb) := (blk_cell HF6.out.c 0).trans (by rw [hQl]; rfl)
  have z1 : W6.cell? ⟨gf, 1, none⟩ = some (.int .i64 (B.length : Int)) := (blk_cell HF6.out.c 1).trans rfl
  clear hF6 hQl zX0_ zX1_ zX2_ zX3_ KX5 HF
  go_wp2_with fail
  have RR6 := Kd.R_reads' HF6.out.r
  have RQ6 := Kd.C_below RQ1.out.2 HF6.out.K
  rw [← HQL.out]
  refine (sameb_calls E e_ Q (some ⟨gb, 0, none⟩) cb W6 RQ6 RQ1.out.1 RR6.2.2 RR6.2.1 (by have := HQL.out; omega)).mono ?_
  rintro e W7 ⟨rfl, hb_⟩
  have HB7 := Aside0.mk (below_step (below_step (below_step HB0.out KW1.out) HF6.out.K) hb_)
  clear RR6 RQ6 hb_ z0 z1
  go_wp2_with fail
  go_ret
  exact ⟨rfl, HB7.out⟩
end Go.Proofs.YtiiolhnpnlmkjaaDoor.Tree
namespace Go.Proofs.YtiiolhnpnlmkjaaDoor.Tree
open Go.RowKit Go.Proofs.YtiiolhnpnlmkjaaDoorW.PrintWords Go.Proofs.YtiiolhnpnlmkjaaDoorW.PrintLast Go.Proofs.YtiiolhnpnlmkjaaDoorW.PrintMore
theorem exists_list {α : Type} (P : Nat → α → Prop) : ∀ n : Nat, (∀ i, i < n → ∃ a, P i a) → ∃ xs : List α, xs.length = n ∧ ∀ i a, xs[i]? = some a → P i a := by
  intro n
  induction n with
  | zero => intro _; exact ⟨[], rfl, fun i a h => by simp at h⟩
  | succ n ih =>
    intro h
    obtain ⟨xs, hl, hx⟩ := ih (fun i hi => h i (by omega))
    obtain ⟨a, ha⟩ := h n (by omega)
    refine ⟨xs ++ [a], by simp [hl], fun i b hb => ?_⟩
    by_cases hi : i < xs.length
    · rw [List.getElem?_append_left hi] at hb; exact hx i b hb
    · have hlt := (List.getElem?_eq_some_iff.1 hb).1
      simp at hlt
      obtain rfl : i = n := by omega
      rw [List.getElem?_append_right (by omega)] at hb
      simp [hl] at hb
      subst hb; exact ha
theorem sum_le {α H : Type} (wt : α → Nat) : ∀ (xs : List α) (ys : List (DataW H)), xs.length = ys.length → (∀ (i : Nat) (a : α) (y : DataW H), xs[i]? = some a → ys[i]? = some y → wt a ≤ Rows.uptoBulk y) → (xs.map wt).sum ≤ Rows.uptoBulkAll ys := by
  intro xs
  induction xs with
  | nil => intro ys _ _; simp
  | cons a xs ih =>
    intro ys hl h
    cases ys with
    | nil => simp at hl
    | cons y ys =>
      simp only [List.map_cons, List.sum_cons, Rows.uptoBulkAll]
      have h1 := h 0 a y rfl rfl
      have h2 := ih ys (by simpa using hl) (fun i b z hb hz => h (i + 1) b z (by simpa using hb) (by simpa using hz))
      omega
theorem mapM_get {α β : Type} {f : α → Option β} : ∀ {l : List α} {r : List β}, l.mapM f = some r → ∀ (i : Nat) (x : α), l[i]? = some x → f x = r[i]? := by
  intro l
  induction l with
  | nil => intro r _ i x h; simp at h
  | cons y l ih =>
    intro r h i x hx
    simp only [List.mapM_cons, Option.bind_eq_bind, Option.bind_eq_some_iff, Option.pure_def, Option.some.injEq] at h
    obtain ⟨z, h1, r', h2, rfl⟩ := h
    cases i with
    | zero => simp at hx; subst hx; simpa using h1
    | succ i => simp at hx; simpa using ih h2 i x hx
section
variable {H : Type} {enc : TypeId × Value → H} {W : World} {base : Nat} {sp : Nat → Bool} {held : Bool}
theorem cells_get {a : Addr} {n : Nat} {cs : List Value} (h : W.cells? base a n = some cs) (hl : cs.length ≤ n) : ∀ i u, cs[i]? = some u → W.cell? (a.add i) = some u := by
  intro i u hu
  unfold World.cells? at h
  split at h
  · have hi := (List.getElem?_eq_some_iff.1 hu).1
    have := mapM_get h i i (by rw [List.getElem?_range]; omega)
    rw [this, hu]
  · cases h
theorem one_le (d : DataW H) : 1 ≤ Rows.uptoBulk d := by
  cases d with
  | lit l => cases l <;> simp [Rows.uptoBulk]
  | nil => simp [Rows.uptoBulk]
  | ptr d => simp [Rows.uptoBulk]
  | slice elems spare => simp [Rows.uptoBulk]
  | agg parts => simp [Rows.uptoBulk]
  | iface t d => simp [Rows.uptoBulk]
  | map entries => simp [Rows.uptoBulk]
  | held h => simp [Rows.uptoBulk]
theorem sum_one {α : Type} (l : List α) : (l.map fun _ => 1).sum = l.length := by
  induction l with
  | nil => rfl
  | cons a l ih => simp only [List.map_cons, List.sum_cons, ih, List.length_cons]; omega
end
end Go.Proofs.YtiiolhnpnlmkjaaDoor.Tree
namespace Go.Proofs.YtiiolhnpnlmkjaaDoor.Tree
open Go.RowKit Go.Proofs.YtiiolhnpnlmkjaaDoorW.PrintWords Go.Proofs.YtiiolhnpnlmkjaaDoorW.PrintLast Go.Proofs.YtiiolhnpnlmkjaaDoorW.PrintMore Go.Proofs.YtiiolhnpnlmkjaaDoor.PMk
theorem cellsU64 : Tryd.prog.cellsOf 78 = 1 := by kernel_rfl
theorem cellsWn : Tryd.prog.cellsOf 149 = 3 := by kernel_rfl
theorem list3w {α : Type} : ∀ {l : List α}, l.length = 3 → ∃ a b c, l = [a, b, c]
  | [a, b, c], _ => ⟨a, b, c, rfl⟩
section
variable {H : Type} {enc : TypeId × Value → H} {W : World} {base : Nat} {sp : Nat → Bool} {held : Bool}
theorem open_rowP {α : Type} (P : α → Prop) (d : Kd α) (wt : α → Nat) {t e : TypeId} (ht : Tryd.prog.underlying t = some (.slice e)) (hs : Tryd.prog.cellsOf e = d.sz) {n : Nat} {cs : List Value} {x : DataW H × List MemPlace}
    (hE : ∀ m cs y, m < n → DataW.trod enc Tryd.prog W base sp held m e cs = some y → ∃ a, d.K W a cs ∧ wt a ≤ Rows.uptoBulk y.1 ∧ P a)
    (h : DataW.trod enc Tryd.prog W base sp held n t cs = some x) : ∃ A c xs, cs = [.slice A xs.length c] ∧ xs.length ≤ c ∧ d.C W A xs.length xs ∧ (xs.map wt).sum + 1 ≤ Rows.uptoBulk x.1 ∧ ∀ a ∈ xs, P a := by
  rcases DataW.trod_slice ht h with ⟨rfl, rfl⟩ | ⟨a, len, cap, elems, rest, m, rfl, rfl, rfl, _, hlc, hcm, hel, hget, _, _⟩
  · exact ⟨none, 0, [], rfl, Nat.le_refl _, (Kd.R_reads' (Kd.R_nil d 0 W 0 (fun _ => True))).2.2, by simp [Rows.uptoBulk], by simp⟩
  · obtain ⟨xs, hl, hx⟩ := exists_list (fun i p => ∃ cs y, W.cells? base (a.add (i * d.sz)) d.sz = some cs ∧ elems[i]? = some y ∧ d.K W p cs ∧ wt p ≤ Rows.uptoBulk y.1 ∧ P p) len (fun i hi => by
      have h1 := hget i hi
      rw [hs, List.getElem?_eq_getElem (by omega)] at h1
      obtain ⟨c, h2, h3⟩ := Option.bind_eq_some_iff.1 h1
      obtain ⟨p, h4, h5⟩ := hE m c _ (by omega) h3
      exact ⟨p, c, _, h2, List.getElem?_eq_getElem (by omega), h4, h5⟩)
    refine ⟨some a, cap, xs, by rw [hl], by omega, ?_, ?_, ?_⟩
    · refine ⟨rfl, by have : maxLen ≤ 9223372036854775807 := by decide
                      omega, fun _ => ⟨a, rfl, fun j p hj => ?_⟩⟩
      obtain ⟨c, y, h1, _, h3, _⟩ := hx j p hj
      have hcl := d.K_len h3
      refine ⟨c, hcl, h3, fun i u hu => ?_⟩
      have := cells_get h1 (by omega) i u hu
      rw [Addr.add_add] at this
      exact this
    · have := sum_le wt xs (elems.map (·.1)) (by simp [hl, hel]) (fun i p y hp hy => by
        obtain ⟨c, z, _, h2, _, h4, _⟩ := hx i p hp
        rw [List.getElem?_map, h2] at hy
        cases hy; exact h4)
      simp only [Rows.uptoBulk]
      omega
    · intro p hp
      obtain ⟨i, hi, rfl⟩ := List.mem_iff_getElem.1 hp
      obtain ⟨c, z, _, _, _, _, h4⟩ := hx i _ (List.getElem?_eq_getElem hi)
      exact h4
theorem open_u64 {n : Nat} {cs : List Value} {y : DataW H × List MemPlace} (h : DataW.trod enc Tryd.prog W base sp held n 78 cs = some y) : ∃ i : Int, (Kd.int .u64).K W i cs ∧ 1 ≤ Rows.uptoBulk y.1 ∧ 0 ≤ i ∧ i < 18446744073709551616 := by
  obtain ⟨a, ea, _, hw⟩ := DataW.trod_int Tryd.underlying78 h
  have := bounds_u64 hw
  exact ⟨a, ea, one_le _, by omega, by omega⟩
def wnW (x : Wn) : Nat := 1 + x.f2.length
set_option maxRecDepth 100000 in
theorem open_wn {n : Nat} {cs : List Value} {y : DataW H × List MemPlace} (h : DataW.trod enc Tryd.prog W base sp held n 149 cs = some y) : ∃ x : Wn, kWn.K W x cs ∧ wnW x ≤ Rows.uptoBulk y.1 ∧ ∀ z ∈ x.f2, 0 ≤ z ∧ z < 18446744073709551616 := by
  obtain ⟨xs, m, rfl, rfl, hl, hx, hf⟩ := DataW.trod_struct Tryd.underlying149 h
  rw [cellsWn] at hl
  obtain ⟨u0, u1, u2, rfl⟩ := list3w hl
  have h0 := hf 0 _ rfl
  have h1 := hf 1 _ rfl
  have h2 := hf 2 _ rfl
  obtain ⟨y0, y1, y2, rfl⟩ := list3w (show xs.length = 3 from hx)
  obtain ⟨k, ek, _⟩ := DataW.trod_int Tryd.underlying3 (show DataW.trod enc Tryd.prog W base sp held m 3 [u0] = some y0 from h0)
  cases ek
  obtain ⟨s, es, _⟩ := DataW.trod_int Tryd.underlying3 (show DataW.trod enc Tryd.prog W base sp held m 3 [u1] = some y1 from h1)
  cases es
  obtain ⟨A2, c2, l, e2, l2, r2, b2, p2⟩ := open_rowP (fun i : Int => 0 ≤ i ∧ i < 18446744073709551616) (Kd.int .u64) (fun _ => 1) (t := 147) (e := 78) Tryd.underlying147 cellsU64 (fun m' cs y _ h => open_u64 h) (show DataW.trod enc Tryd.prog W base sp held m 147 [u2] = some y2 from h2)
  cases e2
  rw [sum_one] at b2
  refine ⟨⟨k, s, l⟩, kWn_mk W ⟨k, s, l⟩ l2 r2, ?_, p2⟩
  unfold wnW
  simp only [List.map_cons, List.map_nil, Rows.uptoBulk, Rows.uptoBulkAll]
  omega
theorem sum_wn (l : List Wn) : l.length ≤ (l.map wnW).sum ∧ ∀ x ∈ l, x.f2.length ≤ (l.map wnW).sum := by
  induction l with
  | nil => simp
  | cons a l ih =>
    simp only [List.map_cons, List.sum_cons, List.length_cons]
    have ha : wnW a = 1 + a.f2.length := rfl
    refine ⟨by omega, fun x hx => ?_⟩
    rcases List.mem_cons.1 hx with rfl | hx
    · omega
    · have := ih.2 x hx
      omega
end
theorem cellsHu : Tryd.prog.cellsOf 58 = 2 := by kernel_rfl
theorem list2w {α : Type} : ∀ {l : List α}, l.length = 2 → ∃ a b, l = [a, b]
  | [a, b], _ => ⟨a, b, rfl⟩
section
variable {H : Type} {enc : TypeId × Value → H} {W : World} {base : Nat} {sp : Nat → Bool} {held : Bool}
set_option maxRecDepth 100000 in
theorem open_hu {n : Nat} {cs : List Value} {y : DataW H × List MemPlace} (h : DataW.trod enc Tryd.prog W base sp held n 58 cs = some y) : ∃ a b : Int, cs = [.int .i64 a, .int .i64 b] := by
  obtain ⟨xs, m, rfl, rfl, hl, hx, hf⟩ := DataW.trod_struct Tryd.underlying58 h
  rw [cellsHu] at hl
  obtain ⟨u0, u1, rfl⟩ := list2w hl
  have h0 := hf 0 _ rfl
  have h1 := hf 1 _ rfl
  obtain ⟨y0, y1, rfl⟩ := list2w (show xs.length = 2 from hx)
  obtain ⟨k, ek, _⟩ := DataW.trod_int Tryd.underlying3 (show DataW.trod enc Tryd.prog W base sp held m 3 [u0] = some y0 from h0)
  cases ek
  obtain ⟨s, es, _⟩ := DataW.trod_int Tryd.underlying3 (show DataW.trod enc Tryd.prog W base sp held m 3 [u1] = some y1 from h1)
  cases es
  exact ⟨k, s, rfl⟩
theorem cells_hu {v : Value} {a b : Int} (h : v.cells.toList = [Value.int .i64 a, Value.int .i64 b]) : v = .agg #[.int .i64 a, .int .i64 b] := by
  cases v <;> first | (simp [Value.cells] at h; done) | skip
  rename_i cs
  have h2 : cs.toList = [Value.int .i64 a, Value.int .i64 b] := by simpa [Value.cells] using h
  have h3 : cs = #[Value.int .i64 a, Value.int .i64 b] := by
    rw [← Array.toList_inj]
    exact h2
  rw [h3]
end
end Go.Proofs.YtiiolhnpnlmkjaaDoor.Tree
namespace Go.Proofs.YtiiolhnpnlmkjaaDoor.wkbHurt
open Go.ChangeShapes Go.WideShapes Go.ChangeAt Go.RowKit Go.Proofs.YtiiolhnpnlmkjaaDoor.Tree
theorem own : ownKnob Tryd.prog.godebug = none := by kernel_rfl
theorem laidOut : laidOutB Tryd.prog = true := by kernel_rfl
theorem et : Tryd.prog.globalNamed "errors.errorType" = some 0 := by kernel_rfl
theorem rt : (Tryd.prog.cutTypes.find? (·.1 == "internal/reflectlite.rtype")).map (·.2) = some 182 := by kernel_rfl
theorem oneRow : ((List.range 228).filter fun t => Tryd.prog.rowNamed t [101, 114, 114, 111, 114]) = [32] := by kernel_rfl
theorem size : Tryd.prog.types.size = 228 := by kernel_rfl
/-- What the row's condition gives a walk: the variable's one cell. -/
theorem handle_of_laid {W : World} (h : laidMetH Tryd.prog [("errors.errorType", Rows.laid_errors_errorType)] W) : Handle W := by
  have h' : laidMet Tryd.prog [] W ∧ handlesMet Tryd.prog [("errors.errorType", Rows.laid_errors_errorType)] W := h
  obtain ⟨name, u, ty, e1, e2, e3, e4, e5⟩ := h'.2 _ (List.mem_singleton.2 rfl)
  have en : name = [101, 114, 114, 111, 114] := (Option.some.inj e1).symm
  subst en
  obtain rfl := Option.some.inj (rt.symm.trans e2)
  have hm : ty ∈ (List.range 228).filter fun t => Tryd.prog.rowNamed t [101, 114, 114, 111, 114] := List.mem_filter.2 ⟨List.mem_range.2 (by rw [← size]; exact e3), e4⟩
  rw [oneRow] at hm
  obtain rfl := List.mem_singleton.1 hm
  have hh : typeHandle Tryd.prog 32 = .pointer (some ⟨1, 32, none⟩) := by kernel_rfl
  rw [hh] at e5
  have := World.var?_cell et e5 0
  simpa [Handle] using this
/-- A world that meets the condition. -/
noncomputable def laidWorld (os : Os) : World :=
  let w0 := World.holding Tryd.prog os ⟨#[], #[], []⟩
  { w0 with heap := w0.heap.modify 0 fun
      | .cells _ t frozen => .cells #[.iface 182 (.agg #[.pointer (some ⟨1, 32, none⟩)])] t frozen
      | o => o }
theorem laidWorld_met (os : Os) (args : Array Value) : laidMetH Tryd.prog [("errors.errorType", Rows.laid_errors_errorType)] ((laidWorld os).forCall (fun _ _ => 0) ⟨#[], args, []⟩).memory :=
  laidMetH_of_parts (laidMet_nil _ _) (by kernel_rfl)
set_option maxRecDepth 100000 in
set_option maxHeartbeats 4000000 in
theorem contract (H : Type) (enc : TypeId × Value → H) (W : World) (args : Array Value) (ds gs : List (DataW H)) (before : List MemPlace) (b0 : Nat) (hval : ∀ (j : Nat) t v, Tryd.f5.params[j]? = some t → args[j]? = some v → Value.okWide Tryd.prog W .any b0 t v)
    (hW : DataW.Whole enc Tryd.prog Tryd.f5.params.toList Rows.wkbHurtSpec.vars false W args.toList ds gs before) (hk : Rows.uptoSmall H (ds ++ gs) = true) (hL : laidMetH Tryd.prog [("errors.errorType", Rows.laid_errors_errorType)] W) :
    Calls Tryd.prog 5 args W fun e W' => ∃ v, e = .returned v ∧ Rows.wkbHurtSpec.post enc Tryd.prog Tryd.f5 false true false false W args v W' := by
  have hW' := hW
  obtain ⟨p, q, hA0, hV, rfl, hfz, hnd⟩ := hW
  have hA : DataW.TrodAll enc Tryd.prog W 0 (fun _ => true) true Tryd.f5.params.toList args.toList ds p := hA0
  rw [Tryd.params5] at hA
  obtain ⟨v0, vs0, d0, ds0, p0, q0, hargs, rfl, rfl, h0, r0⟩ := trodAll_cons hA
  obtain ⟨v1, vs1, d1, ds1, p1, q1, rfl, rfl, rfl, h1, r1⟩ := trodAll_cons r0
  obtain ⟨v2, vs2, d2, ds2, p2, q2, rfl, rfl, rfl, h2, r2⟩ := trodAll_cons r1
  obtain ⟨rfl, rfl, rfl⟩ := trodAll_nil r2
  obtain rfl : args = #[v0, v1, v2] := by cases args; simp_all
  obtain ⟨rfl, rfl⟩ := trodVars_none hV
  have k0 := h0
  obtain ⟨fuel0, hf0⟩ := h0
  obtain ⟨A0, c0, l0, e0, n0, s0, hb0, hP0⟩ := open_rowP (fun x : Go.Proofs.YtiiolhnpnlmkjaaDoor.PMk.Wn => ∀ z ∈ x.f2, 0 ≤ z ∧ z < 18446744073709551616) Go.Proofs.YtiiolhnpnlmkjaaDoor.PMk.kWn wnW (t := 56) (e := 149) Tryd.underlying56 cellsWn (fun m' cs y _ h => open_wn h) hf0
  obtain ⟨a0_, len_, cap_, rfl⟩ := okWide_slice Tryd.underlying56 (hval 0 56 v0 (by rw [Tryd.params5]; rfl) rfl)
  obtain ⟨rfl, rfl, rfl⟩ : A0 = a0_ ∧ l0.length = len_ ∧ c0 = cap_ := by
    have e9 : [Value.slice a0_ len_ cap_] = [Value.slice A0 l0.length c0] := e0
    cases e9
    exact ⟨rfl, rfl, rfl⟩
  have lt0 : ∀ x ∈ p0, x.block < W.heap.size := by obtain ⟨m, hm⟩ := k0; exact DataW.trod_lt m _ _ _ hm
  have k1 := h1
  obtain ⟨fuel1, hf1⟩ := h1
  obtain ⟨a1, b1, hc1⟩ := open_hu hf1
  obtain rfl := cells_hu hc1
  have lt1 : ∀ x ∈ p1, x.block < W.heap.size := by obtain ⟨m, hm⟩ := k1; exact DataW.trod_lt m _ _ _ hm
  obtain ⟨a2, rfl, rfl, rfl⟩ := open_bool Tryd.underlying4 (hval 2 4 v2 (by rw [Tryd.params5]; rfl) rfl) h2
  have hsum : Rows.uptoBulkAll ([d0, d1, .lit (.bool a2)] ++ []) ≤ 1048576 := of_decide_eq_true hk
  simp only [List.append_nil, Rows.uptoBulkAll] at hsum
  have hbk0 : (l0.map wnW).sum ≤ 1048576 := by
    have hb' : (l0.map wnW).sum + 1 ≤ Rows.uptoBulk d0 := hb0
    omega
  clear hA0
  have hh : Handle W := handle_of_laid hL
  refine (hurt_calls A0 c0 l0 a1 b1 a2 W s0 (by have := (sum_wn l0).1; omega) (fun x hx => by have := (sum_wn l0).2 x hx; omega) hP0 hh).mono fun e W' ⟨he, bel⟩ => ?_
  subst he
  exact ⟨_, rfl, _, _, _, [], _, [], hW', trodAll_mk1 (shut_bool Tryd.underlying4 _), (trodAll_cons_mk (Below.trod laidOut (by kernel_rfl) (of_decide_eq_true (by kernel_rfl)) k0 bel lt0) (trodAll_cons_mk (Below.trod laidOut (by kernel_rfl) (of_decide_eq_true (by kernel_rfl)) k1 bel lt1) (trodAll_cons_mk (shut_bool Tryd.underlying4 _) trodAll_mk0))), rfl, bel.frame _, fun h => by cases h⟩
theorem reads (os : Os) {H : Type} (enc : TypeId × Value → H) : ∃ places, DataW.whole enc Tryd.prog ((laidWorld os).forCall (fun _ _ => 0) ⟨#[], #[.slice none 0 0, .agg #[.int .i64 0, .int .i64 0], .bool false], []⟩).memory Tryd.f5.params.toList Rows.wkbHurtSpec.vars false (#[.slice none 0 0, .agg #[.int .i64 0, .int .i64 0], .bool false] : Array Value).toList 8 = some ([.nil, .agg [.lit (.int .i64 0), .lit (.int .i64 0)], .lit (.bool false)], [], places) :=
  ⟨[], by kernel_rfl⟩
set_option maxRecDepth 100000 in
theorem liftedUpto (os : Os) (started : os.Started) (H : Type) (enc : TypeId × Value → H) (F : Stop.Interp) :
    ReturnsInHanded {} Tryd.checked os 5 .any ((Rows.OpenSpec.upto Rows.wkbHurtSpec).preRow enc Tryd.prog Tryd.f5 Rows.wkbHurtUptoRow.domain false Rows.wkbHurtUptoRow.laid) (((Rows.OpenSpec.upto Rows.wkbHurtSpec).at F).post enc Tryd.prog Tryd.f5 false true false false) := by
  obtain ⟨places, hx⟩ := reads os enc
  refine returnsInHanded_of_row (C := Tryd.checked) (s := Rows.OpenSpec.upto Rows.wkbHurtSpec) own started (by kernel_rfl) Tryd.func5
    (witness_row_at (enc := enc) (C := Tryd.checked) false (laidWorld os) #[.slice none 0 0, .agg #[.int .i64 0, .int .i64 0], .bool false] rfl (by kernel_rfl) (by kernel_rfl) (by kernel_rfl)
      (OpenSpec.preRow_of_cond 8 hx (by kernel_rfl) (fun k hk => by cases hk; kernel_rfl) (by kernel_rfl) (laidWorld_met os _))) ?_
  intro W base args ds gs before hval hW _ hcond _ hL _ _
  exact contract H enc W args ds gs before base hval hW (hcond _ rfl) hL
theorem saidUpto : Rows.WkbHurtUptoSaid :=
  OpenClaim.holds_of_cond 5 Tryd.f5 rfl rfl rfl rfl rfl rfl rfl ⟨rfl, rfl, rfl, rfl, rfl⟩ rfl rfl rfl rfl rfl (by kernel_rfl) Tryd.func5 (by kernel_rfl)
    (of_decide_eq_true (by kernel_rfl)) (by unfold Func.isWrapper; first | (rw [if_pos (by decide +kernel)]; kernel_rfl) | (rw [if_neg (by decide +kernel)]; exact ⟨rfl, rfl⟩))
    (fun os started H enc _ F => by rw [OpenClaim.pre_eq_preRow]; exact liftedUpto os started H enc F)
theorem plain (f : FuncId) (fn : Func) (hf : Tryd.pinned.checked.prog.funcNamed "plumb/plumblaw17.WkbHurt" = some f) (hfn : Tryd.pinned.checked.prog.funcs[f]? = some fn) :
    true = Tryd.pinned.checked.prog.looks [] ∧ ∀ (j : Nat) t, fn.params[j]? = some t → Tryd.pinned.checked.prog.wantsStandIn t = false := by
  obtain rfl : f = 5 := Option.some.inj ((show Tryd.prog.funcNamed "plumb/plumblaw17.WkbHurt" = some 5 by kernel_rfl).symm.trans hf) |>.symm
  obtain rfl : fn = Tryd.f5 := (Option.some.inj (Tryd.func5.symm.trans hfn)).symm
  refine ⟨by kernel_rfl, fun j t ht => ?_⟩
  rw [Tryd.params5] at ht
  have hm : t ∈ [56, 58, 4] := by
    have := Array.mem_of_getElem? ht
    simpa using this
  simp only [List.mem_cons, List.not_mem_nil, or_false] at hm
  rcases hm with rfl | rfl | rfl
  · exact (show Tryd.prog.wantsStandIn 56 = false by kernel_rfl)
  · exact (show Tryd.prog.wantsStandIn 58 = false by kernel_rfl)
  · exact (show Tryd.prog.wantsStandIn 4 = false by kernel_rfl)
set_option maxRecDepth 100000 in
/-- The tied card of the second form. -/
theorem card_ : Rows.WkbHurtUptoCardSaid :=
  Claim7.holds_tied_plain_at .later [] _ _ _ _ saidUpto (fun _ h => by cases h) (by kernel_rfl) (fun _ h => by cases h) wkbHurtUpto_row_tie rfl ⟨rfl, rfl⟩ (by kernel_rfl) rfl plain (by kernel_rfl)
end Go.Proofs.YtiiolhnpnlmkjaaDoor.wkbHurt
namespace Go.Proofs.YtiiolhnpnlmkjaaDoor
theorem wkbHurt_holds : Rows.WkbHurtUptoCardSaid := wkbHurt.card_
end Go.Proofs.YtiiolhnpnlmkjaaDoor
