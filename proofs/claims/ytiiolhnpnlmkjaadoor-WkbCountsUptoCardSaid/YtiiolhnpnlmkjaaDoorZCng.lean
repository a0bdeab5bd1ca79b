/- Texts of this claim laid one behind the other (TPGeom; TRef; TItems; TSmall; TRShape; TRCheck; TErrs; TPrSem): what each proves stands at its own names; the last one is the claim's. No conditions but those told. -/
import Derived.Test.YtiiolhnpnlmkjaaDoorZCnf
import Derived.StillTailTactics
import Derived.RangeFuncRecord
import Derived.Laws.BitsAllLaws
import Derived.Test.YtiiolhnpnlmkjaaDoorProg
import Derived.WalkKit
import Derived.LaidEql
import Derived.Stop.Asserts
import Derived.RowKitTokens
import Derived.BigQuiet
namespace Go.Proofs.YtiiolhnpnlmkjaaDoor.Tree
open Go.RowKit Go.Proofs.YtiiolhnpnlmkjaaDoor.PWkbPrints Go.Proofs.YtiiolhnpnlmkjaaDoorW.PrintWords Go.Proofs.YtiiolhnpnlmkjaaDoorW.PrintLast Go.Proofs.YtiiolhnpnlmkjaaDoorW.PrintMore
attribute [local go_sem] Oper.semAt_some max2_int max_two min2_int min_two
set_option maxRecDepth 100000 in
set_option maxHeartbeats 16000000 in
theorem pgeom_calls (n : Nat) : ∀ (g : Ge) (w0 W : World) (gp : Nat) (O : Option Addr) (co : Nat) (os : List Bool) (k : Nat) (vo : Value) (out : List Int) (v : Value), g.bulk ≤ n → Pr 103 cfP w0 W gp O co os k vo out → IsG w0 v g → out.length + 32 * g.bulk ≤ 70368744177664 → k + g.bulk ≤ 1152921504606846976 → os.length ≤ 1152921504606846976 →
    Calls Tryd.prog 46 #[.pointer (some ⟨gp, 0, none⟩), v] W fun e W' => e = .returned (.tuple #[]) ∧ ∃ vo', Pr 103 cfP w0 W' gp O co os (k + cntG g) vo' (out ++ geoB os g k) ∧ Mv W W' gp vo vo' := by
  induction n with
  | zero => intro g w0 W gp O co os k vo out v h; have := g.bulk_eq; omega
  | succ n ih =>
  intro g w0 W gp O co os k vo out v hbk hP hv hl hk hos
  obtain ⟨A1, c1, A2, c2, A3, c3, rfl, l1, h1, l2, h2, l3, h3⟩ := hv
  have hbq := g.bulk_eq
  have HE := Aside0.mk (geoB_eq os g k)
  have HN := Aside0.mk (cntG_eq g)
  have H1 := Aside0.mk h1
  have H2 := Aside0.mk h2
  have H3 := Aside0.mk h3
  have IH := Aside0.mk ih
  have HP := Aside0.mk hP
  clear h1 h2 h3 ih hP
  go_enter Tryd.func46, Tryd.ntmps46
  go_wp2_with fail
  obtain ⟨gb, hgb⟩ : ∃ y, y = W.heap.size := ⟨_, rfl⟩
  obtain ⟨W1, hW1⟩ : ∃ y, y = W.alloc (.cells #[.int .i64 g.f0, .slice A1 g.f1.length c1, .slice A2 g.f2.length c2, .slice A3 g.f3.length c3] 28) := ⟨_, rfl⟩
  rw [← hW1, ← hgb]
  have hb1 : Below W.heap.size W W1 := by rw [hW1]; exact below_alloc (Below.refl _ _) _
  have G1 := Aside0.mk (show Gs 103 cfP w0 W W1 gp O co os k vo vo out gb #[.int .i64 g.f0, .slice A1 g.f1.length c1, .slice A2 g.f2.length c2, .slice A3 g.f3.length c3] from ⟨HP.out.below hb1, Mv.below gp vo hb1, by rw [hW1, hgb]; exact World.alloc_heap_new _ _, by have := blk_lt HP.out.c; omega⟩)
  clear hb1 hW1 hgb HP
  refine (order_calls w0 W1 gp O co os k vo out G1.out.P (by omega) hos).mono ?_
  rintro e w2 ⟨rfl, hp2, hm2⟩
  have G2 := Aside0.mk (G1.out.step hp2 hm2)
  have hol : out.length ≤ 70368744177664 := by omega
  clear G1 hp2 hm2
  have hs0 : w2.cell? ⟨gp, 0, none⟩ = some vo := (blk_cell G2.out.P.c 0).trans rfl
  go_upto_if 11 with fail
  go_cut [4] from 9 to 29 (fun c wx => c = .bool (ordAt os k) ∧ ∃ v1, Gs 103 cfP w0 W wx gp O co os (k + 1) vo v1 (out ++ bitB (ordAt os k)) gb #[.int .i64 g.f0, .slice A1 g.f1.length c1, .slice A2 g.f2.length c2, .slice A3 g.f3.length c3])
  case first =>
    cases hle : ordAt os k with
    | true =>
      go_wp2_with ((with_reducible refine gate_builtin (b := .append) (xs := #[.tmp 16, .tmp 17]) rfl ?_); at_builtin; refine Kd.R_append kB (w0 := w0) w0.heap.size rfl (.tmp 16) (.tmp 17) 22 5 (.int .u8 0) 1 rfl Tryd.underlying22 info5 rfl (by decide) (by omega) vo out (1 : Int) [.int .u8 1] (fun _ => True) (fun _ => False) rfl rfl ?aP ?aK ?aF ?aO ?aB ?aS ?aL ?_; (case aP => rfl); (case aK => exact fun _ h => h.elim); (case aF => exact fun _ _ => trivial); (case aO => exact Kd.R_mono G2.out.P.r (fun _ _ => trivial)); (case aB => exact G2.out.P.K); (case aS => exact G2.out.P.K.size); (case aL => omega); intro v3 w3 ho3 hb3 hg3 hat3; obtain ⟨g1, g2, g3, g4⟩ := G2.out.P.grown ho3 hg3 hat3; obtain ⟨A5, c5, e5⟩ := Kd.R_slice ho3; subst e5; have hs0 : w3.cell? ⟨gp, 0, none⟩ = some vo := (blk_cell g1 0).trans rfl; have hf0 := blk_frozen g1 0; have M3 := Aside0.mk (show Mv w2 w3 gp vo (.slice A5 (out ++ [(1 : Int)]).length c5) from ⟨hg3.size, fun j hj _ hr => hg3.block j hj hr, hat3⟩); (rw [show (out ++ [(1 : Int)]).length = out.length + 1 from by simp] at g2 M3 ⊢); have G3 := Aside0.mk (And.intro g1 (And.intro g2 g3)); clear g1 g2 g3 g4 ho3 hb3 hg3 hat3)
      have hP4 := Pr.set (i := 0) (u := .slice A5 (out.length + 1) c5) (k' := k + 1) G3.out.1 G3.out.2.1 G2.out.P.o G2.out.P.h G3.out.2.2 (by simp [cfP])
      have hM4 := M3.out.trans (Mv.set (W := w3) (gp := gp) (vo' := .slice A5 (out.length + 1) c5) 0 (.slice A5 (out.length + 1) c5) rfl)
      go_meet
      exact ⟨by rw [hle], _, G2.out.step (by rw [bitB, hle]; exact hP4) hM4⟩
    | false =>
      go_wp2_with ((with_reducible refine gate_builtin (b := .append) (xs := #[.tmp 25, .tmp 26]) rfl ?_); at_builtin; refine Kd.R_append kB (w0 := w0) w0.heap.size rfl (.tmp 25) (.tmp 26) 22 5 (.int .u8 0) 1 rfl Tryd.underlying22 info5 rfl (by decide) (by omega) vo out (0 : Int) [.int .u8 0] (fun _ => True) (fun _ => False) rfl rfl ?aP ?aK ?aF ?aO ?aB ?aS ?aL ?_; (case aP => rfl); (case aK => exact fun _ h => h.elim); (case aF => exact fun _ _ => trivial); (case aO => exact Kd.R_mono G2.out.P.r (fun _ _ => trivial)); (case aB => exact G2.out.P.K); (case aS => exact G2.out.P.K.size); (case aL => omega); intro v3 w3 ho3 hb3 hg3 hat3; obtain ⟨g1, g2, g3, g4⟩ := G2.out.P.grown ho3 hg3 hat3; obtain ⟨A5, c5, e5⟩ := Kd.R_slice ho3; subst e5; have hs0 : w3.cell? ⟨gp, 0, none⟩ = some vo := (blk_cell g1 0).trans rfl; have hf0 := blk_frozen g1 0; have M3 := Aside0.mk (show Mv w2 w3 gp vo (.slice A5 (out ++ [(0 : Int)]).length c5) from ⟨hg3.size, fun j hj _ hr => hg3.block j hj hr, hat3⟩); (rw [show (out ++ [(0 : Int)]).length = out.length + 1 from by simp] at g2 M3 ⊢); have G3 := Aside0.mk (And.intro g1 (And.intro g2 g3)); clear g1 g2 g3 g4 ho3 hb3 hg3 hat3)
      have hP4 := Pr.set (i := 0) (u := .slice A5 (out.length + 1) c5) (k' := k + 1) G3.out.1 G3.out.2.1 G2.out.P.o G2.out.P.h G3.out.2.2 (by simp [cfP])
      have hM4 := M3.out.trans (Mv.set (W := w3) (gp := gp) (vo' := .slice A5 (out.length + 1) c5) 0 (.slice A5 (out.length + 1) c5) rfl)
      go_meet
      exact ⟨by rw [hle], _, G2.out.step (by rw [bitB, hle]; exact hP4) hM4⟩
  case rest =>
    obtain ⟨rfl, v1, hG⟩ := hcut
    have G3 := Aside0.mk hG
    obtain ⟨le, hle⟩ : ∃ y, y = ordAt os k := ⟨_, rfl⟩
    rw [← hle] at G3 HE ⊢
    clear hG G2 hs0 hle
    have z0_ : wc.cell? ⟨gb, 0, none⟩ = some (.int .i64 g.f0) := (blk_cell G3.out.b 0).trans rfl
    have z1_ : wc.cell? ⟨gb, 1, none⟩ = some (.slice A1 g.f1.length c1) := (blk_cell G3.out.b 1).trans rfl
    have z2_ : wc.cell? ⟨gb, 2, none⟩ = some (.slice A2 g.f2.length c2) := (blk_cell G3.out.b 2).trans rfl
    have z3_ : wc.cell? ⟨gb, 3, none⟩ = some (.slice A3 g.f3.length c3) := (blk_cell G3.out.b 3).trans rfl
    go_wp2_with fail
    refine (word_calls w0 wc gp O co os (k + 1) v1 (out ++ bitB le) g.f0 le G3.out.P (by simp only [List.length_append, P32_len, bitB, List.length_singleton]; omega)).mono ?_
    rintro e w4 ⟨rfl, v4, hp4, hm4⟩
    have G4 := Aside0.mk (G3.out.step hp4 hm4)
    clear z0_ z1_ z2_ z3_ G3 hp4 hm4
    have z0_ : w4.cell? ⟨gb, 0, none⟩ = some (.int .i64 g.f0) := (blk_cell G4.out.b 0).trans rfl
    have z1_ : w4.cell? ⟨gb, 1, none⟩ = some (.slice A1 g.f1.length c1) := (blk_cell G4.out.b 1).trans rfl
    have z2_ : w4.cell? ⟨gb, 2, none⟩ = some (.slice A2 g.f2.length c2) := (blk_cell G4.out.b 2).trans rfl
    have z3_ : w4.cell? ⟨gb, 3, none⟩ = some (.slice A3 g.f3.length c3) := (blk_cell G4.out.b 3).trans rfl
    by_cases k1 : g.f0 = 1
    · have k1' : (g.f0 == 1) = true := by rw [k1]; rfl
      rw [if_pos k1] at HE
      rw [if_pos (.inl k1)] at HN
      by_cases e1 : g.f1.length = 0
      · rw [if_pos e1] at HE
        go_wp2_with fail
        obtain ⟨gq, hgq⟩ : ∃ y, y = w4.heap.size := ⟨_, rfl⟩
        obtain ⟨wl, hwl⟩ : ∃ y, y = w4.alloc (.cells #[.int .u64 nanP.f0, .int .u64 nanP.f1] 82) := ⟨_, rfl⟩
        have hwl' : w4.alloc (.cells #[.int .u64 9221120237041090560, .int .u64 9221120237041090560] 82) = wl := hwl.symm
        rw [hwl', ← hgq]
        have hbl : Below w4.heap.size w4 wl := by rw [hwl]; exact below_alloc (Below.refl _ _) _
        have kq : wl.heap[gq]? = some (.cells #[.int .u64 nanP.f0, .int .u64 nanP.f1] 82 (0, 0)) := by rw [hwl, hgq]; exact World.alloc_heap_new _ _
        have hqp : gq ≠ gp := by have := blk_lt G4.out.P.c; omega
        have G5 := Aside0.mk (G4.out.below hbl)
        clear hbl hwl hwl' hgq G4
        refine (points_calls w0 wl gp O co os (k + 1) v4 ((out ++ bitB le) ++ P32 (u32 g.f0) le) (some ⟨gq, 0, none⟩) 1 [nanP] le G5.out.P (fun W' v' _ hm => lit_pt (hm.keep kq hqp (Kd.R_ne G5.out.P.r kq (by decide)))) (by simp only [List.length_append, P32_len, bitB, List.length_singleton]; omega)).mono ?_
        rintro e w5 ⟨rfl, v5, hp5, hm5⟩
        have G6 := Aside0.mk (G5.out.step hp5 hm5)
        clear z0_ z1_ z2_ z3_ G5 hp5 hm5 kq
        go_wp2_with fail
        refine bodyPost_ret (results_none rfl _ _ _) rfl ?_
        exact ⟨rfl, v5, by rw [HN.out, HE.out]; have h9 := G6.out.P; simp only [List.append_assoc] at h9; exact h9, G6.out.M⟩
      · rw [if_neg e1] at HE
        have e1' : ¬ ((g.f1.length : Int) = 0) := by omega
        have e1b : ((g.f1.length : Int) == 0) = false := beq_eq_false_iff_ne.2 e1'
        go_wp2_with fail
        refine (points_calls w0 w4 gp O co os (k + 1) v4 ((out ++ bitB le) ++ P32 (u32 g.f0) le) A1 c1 g.f1 le G4.out.P (fun W' _ hb _ => Kd.C_below H1.out hb) (by simp only [List.length_append, P32_len, bitB, List.length_singleton]; omega)).mono ?_
        rintro e w5 ⟨rfl, v5, hp5, hm5⟩
        have G5 := Aside0.mk (G4.out.step hp5 hm5)
        clear z0_ z1_ z2_ z3_ G4 hp5 hm5
        go_wp2_with fail
        refine bodyPost_end (results_none rfl _ _ _) rfl ?_
        exact ⟨rfl, v5, by rw [HN.out, HE.out]; have h9 := G5.out.P; simp only [List.append_assoc] at h9; exact h9, G5.out.M⟩
    have k1' : (g.f0 == 1) = false := beq_eq_false_iff_ne.2 k1
    rw [if_neg k1] at HE
    by_cases k2 : g.f0 = 2
    · have k2' : (g.f0 == 2) = true := by rw [k2]; rfl
      rw [if_pos k2] at HE
      rw [if_pos (.inr (.inl k2))] at HN
      go_wp2_with fail
      refine (word_calls w0 w4 gp O co os (k + 1) v4 ((out ++ bitB le) ++ P32 (u32 g.f0) le) (g.f1.length : Int) le G4.out.P (by simp only [List.length_append, P32_len, bitB, List.length_singleton]; omega)).mono ?_
      rintro e w5 ⟨rfl, v5, hp5, hm5⟩
      have G5 := Aside0.mk (G4.out.step hp5 hm5)
      clear z0_ z1_ z2_ z3_ G4 hp5 hm5
      have z0_ : w5.cell? ⟨gb, 0, none⟩ = some (.int .i64 g.f0) := (blk_cell G5.out.b 0).trans rfl
      have z1_ : w5.cell? ⟨gb, 1, none⟩ = some (.slice A1 g.f1.length c1) := (blk_cell G5.out.b 1).trans rfl
      have z2_ : w5.cell? ⟨gb, 2, none⟩ = some (.slice A2 g.f2.length c2) := (blk_cell G5.out.b 2).trans rfl
      have z3_ : w5.cell? ⟨gb, 3, none⟩ = some (.slice A3 g.f3.length c3) := (blk_cell G5.out.b 3).trans rfl
      go_wp2_with fail
      refine (points_calls w0 w5 gp O co os (k + 1) v5 (((out ++ bitB le) ++ P32 (u32 g.f0) le) ++ P32 (u32 g.f1.length) le) A1 c1 g.f1 le G5.out.P (fun W' _ hb _ => Kd.C_below H1.out hb) (by simp only [List.length_append, P32_len, bitB, List.length_singleton]; omega)).mono ?_
      rintro e w6 ⟨rfl, v6, hp6, hm6⟩
      have G6 := Aside0.mk (G5.out.step hp6 hm6)
      clear z0_ z1_ z2_ z3_ G5 hp6 hm6
      go_wp2_with fail
      refine bodyPost_end (results_none rfl _ _ _) rfl ?_
      exact ⟨rfl, v6, by rw [HN.out, HE.out]; have h9 := G6.out.P; simp only [List.append_assoc] at h9; exact h9, G6.out.M⟩
    have k2' : (g.f0 == 2) = false := beq_eq_false_iff_ne.2 k2
    rw [if_neg k2] at HE
    by_cases k3 : g.f0 = 3
    · have k3' : (g.f0 == 3) = true := by rw [k3]; rfl
      rw [if_pos k3] at HE
      rw [if_pos (.inr (.inr k3))] at HN
      go_wp2_with fail
      refine (word_calls w0 w4 gp O co os (k + 1) v4 ((out ++ bitB le) ++ P32 (u32 g.f0) le) (g.f2.length : Int) le G4.out.P (by simp only [List.length_append, P32_len, bitB, List.length_singleton]; omega)).mono ?_
      rintro e w5 ⟨rfl, v5, hp5, hm5⟩
      have G5 := Aside0.mk (G4.out.step hp5 hm5)
      clear z0_ z1_ z2_ z3_ G4 hp5 hm5
      have z0_ : w5.cell? ⟨gb, 0, none⟩ = some (.int .i64 g.f0) := (blk_cell G5.out.b 0).trans rfl
      have z1_ : w5.cell? ⟨gb, 1, none⟩ = some (.slice A1 g.f1.length c1) := (blk_cell G5.out.b 1).trans rfl
      have z2_ : w5.cell? ⟨gb, 2, none⟩ = some (.slice A2 g.f2.length c2) := (blk_cell G5.out.b 2).trans rfl
      have z3_ : w5.cell? ⟨gb, 3, none⟩ = some (.slice A3 g.f3.length c3) := (blk_cell G5.out.b 3).trans rfl
      go_wp2_with fail
      obtain ⟨o5, ho5⟩ : ∃ y, y = ((out ++ bitB le) ++ P32 (u32 g.f0) le) ++ P32 (IntKind.u32.wrap (g.f2.length : Int)) le := ⟨_, rfl⟩
      have ho5l : o5.length = out.length + 9 := by rw [ho5]; simp only [List.length_append, P32_len, bitB, List.length_singleton]
      have HO5 := Aside0.mk ho5
      rw [← ho5] at G5
      have HO5L := Aside0.mk ho5l
      clear z0_ z1_ z2_ z3_ ho5 ho5l
      go_loopg [6, 94] g.f2.length (fun kq x6 ii wr => ∃ (i : Nat) (vi : Value), ii = .int .i64 (i : Int) ∧ i + kq = g.f2.length ∧ Aside0 (Gs 103 cfP w0 W wr gp O co os (k + 1) vo vi (o5 ++ ringsB le (g.f2.take i)) gb #[.int .i64 g.f0, .slice A1 g.f1.length c1, .slice A2 g.f2.length c2, .slice A3 g.f3.length c3]))
      case atStart => exact ⟨0, v5, rfl, by omega, ⟨by simpa [ringsB] using G5.out⟩⟩
      case round =>
        clear G5
        obtain ⟨i, vi, rfl, hi, G5⟩ := hrel
        cases gk with
        | zero =>
          have hlt : ¬ ((i : Int) < (g.f2.length : Int)) := by omega
          obtain rfl : i = g.f2.length := by omega
          go_wp2_with fail
          refine bodyPost_end (results_none rfl _ _ _) rfl ?_
          exact ⟨rfl, vi, by rw [HN.out, HE.out]; have h9 := G5.out.P; rw [List.take_length, HO5.out] at h9; simp only [List.append_assoc] at h9; exact h9, G5.out.M⟩
        | succ kq =>
          have hlt : (i : Int) < (g.f2.length : Int) := by omega
          have hil : i < g.f2.length := by omega
          obtain ⟨ad, A4, c4, e4, p0, hc4, hr4⟩ := at_L2 H2.out (i : Int) (by omega) (by omega)
          have hrd : rd_L2 g.f2 (i : Int) = g.f2[i] := by simp [rd_L2, List.getD_eq_getElem?_getD, List.getElem?_eq_getElem hil]
          rw [hrd, Int.toNat_natCast] at p0
          rw [hrd] at hc4 hr4
          subst e4
          have p0' := cell_below G5.out.P.K p0
          have HTK := Aside0.mk (List.take_succ_eq_append_getElem hil)
          have hfl : (g.f2.take i).flatten.length + g.f2[i].length ≤ g.f2.flatten.length := by
            have h9 := congrArg (fun l => l.flatten.length) (List.take_append_drop i g.f2)
            simp only [List.flatten_append, List.length_append] at h9
            rw [List.drop_eq_getElem_cons hil, List.flatten_cons, List.length_append] at h9
            omega
          have hrl := ringsB_len le (g.f2.take i)
          have htl : (g.f2.take i).length = i := by rw [List.length_take]; omega
          obtain ⟨r, hr⟩ : ∃ r, r = g.f2[i] := ⟨_, rfl⟩
          rw [← hr] at p0' hc4 hr4 HTK hfl
          have HR4 := Aside0.mk hr4
          have HLN := Aside0.mk (show (o5 ++ ringsB le (g.f2.take i)).length + 4 + 16 * r.length ≤ 70368744177664 by rw [List.length_append, HO5L.out]; omega)
          clear hrd p0 hr hr4 hrl htl hfl
          go_wp2_with fail
          refine (word_calls w0 wr gp O co os (k + 1) vi (o5 ++ ringsB le (g.f2.take i)) (r.length : Int) le G5.out.P (by have := HLN.out; omega)).mono ?_
          rintro e w6 ⟨rfl, v6, hp6, hm6⟩
          have G6 := Aside0.mk (G5.out.step hp6 hm6)
          clear G5 hp6 hm6
          go_wp2_with fail
          refine (points_calls w0 w6 gp O co os (k + 1) v6 ((o5 ++ ringsB le (g.f2.take i)) ++ P32 (u32 r.length) le) A4 c4 r le G6.out.P (fun W' _ hb _ => Kd.C_below HR4.out hb) (by rw [List.length_append, P32_len]; exact HLN.out)).mono ?_
          rintro e w7 ⟨rfl, v7, hp7, hm7⟩
          have G7 := Aside0.mk (G6.out.step hp7 hm7)
          clear G6 hp7 hm7
          go_wp2_with fail
          go_roundg kq
          case measure => omega
          case rel => exact ⟨i + 1, v7, by go_num, by omega, ⟨by have h9 := G7.out; rw [HTK.out, ringsB_snoc]; simp only [List.append_assoc] at h9 ⊢; exact h9⟩⟩
    have k3' : (g.f0 == 3) = false := beq_eq_false_iff_ne.2 k3
    rw [if_neg k3] at HE
    rw [if_neg (by rintro (h | h | h) <;> contradiction)] at HN
    go_wp2_with fail
    refine (word_calls w0 w4 gp O co os (k + 1) v4 ((out ++ bitB le) ++ P32 (u32 g.f0) le) (g.f3.length : Int) le G4.out.P (by simp only [List.length_append, P32_len, bitB, List.length_singleton]; omega)).mono ?_
    rintro e w5 ⟨rfl, v5, hp5, hm5⟩
    have G5 := Aside0.mk (G4.out.step hp5 hm5)
    clear z0_ z1_ z2_ z3_ G4 hp5 hm5
    have z0_ : w5.cell? ⟨gb, 0, none⟩ = some (.int .i64 g.f0) := (blk_cell G5.out.b 0).trans rfl
    have z1_ : w5.cell? ⟨gb, 1, none⟩ = some (.slice A1 g.f1.length c1) := (blk_cell G5.out.b 1).trans rfl
    have z2_ : w5.cell? ⟨gb, 2, none⟩ = some (.slice A2 g.f2.length c2) := (blk_cell G5.out.b 2).trans rfl
    have z3_ : w5.cell? ⟨gb, 3, none⟩ = some (.slice A3 g.f3.length c3) := (blk_cell G5.out.b 3).trans rfl
    go_wp2_with fail
    obtain ⟨o5, ho5⟩ : ∃ y, y = ((out ++ bitB le) ++ P32 (u32 g.f0) le) ++ P32 (IntKind.u32.wrap (g.f3.length : Int)) le := ⟨_, rfl⟩
    have ho5l : o5.length = out.length + 9 := by rw [ho5]; simp only [List.length_append, P32_len, bitB, List.length_singleton]
    have HO5 := Aside0.mk ho5
    rw [← ho5] at G5
    have HO5L := Aside0.mk ho5l
    clear z0_ z1_ z2_ z3_ ho5 ho5l
    have hb3 : g.f3.length ≤ 70368744177664 := by have := bulks_len g.f3; omega
    go_loopg [8, 46] g.f3.length (fun kq x8 ii wr => ∃ (i : Nat) (vi : Value), ii = .int .i64 (i : Int) ∧ i + kq = g.f3.length ∧ Aside0 (Gs 103 cfP w0 W wr gp O co os (k + 1 + cntL (g.f3.take i)) vo vi (o5 ++ partsB os (g.f3.take i) (k + 1)) gb #[.int .i64 g.f0, .slice A1 g.f1.length c1, .slice A2 g.f2.length c2, .slice A3 g.f3.length c3]))
    case atStart => exact ⟨0, v5, rfl, by omega, ⟨by simpa [partsB, cntL] using G5.out⟩⟩
    case round =>
      clear G5
      obtain ⟨i, vi, rfl, hi, G5⟩ := hrel
      cases gk with
      | zero =>
        have hlt : ¬ ((i : Int) < (g.f3.length : Int)) := by omega
        obtain rfl : i = g.f3.length := by omega
        go_wp2_with fail
        refine bodyPost_end (results_none rfl _ _ _) rfl ?_
        exact ⟨rfl, vi, by rw [HN.out, HE.out, ← Nat.add_assoc]; have h9 := G5.out.P; rw [List.take_length, HO5.out] at h9; simp only [List.append_assoc] at h9; exact h9, G5.out.M⟩
      | succ kq =>
        have hlt : (i : Int) < (g.f3.length : Int) := by omega
        have hil : i < g.f3.length := by omega
        obtain ⟨a3, B1, d1, B2, d2, B3, d3, ea, p0, p1, p2, p3, m1, q1, m2, q2, m3, q3⟩ := at_Ge H3.out i (by omega) (by omega)
        subst ea
        rw [rd_Ge_at _ _ hil] at p0 p1 p2 p3 q1 q2 q3 m1 m2 m3
        rw [Int.toNat_natCast] at p0 p1 p2 p3
        have HG := Aside0.mk (show IsG w0 (.agg #[.int .i64 (g.f3[i]).f0, .slice B1 (g.f3[i]).f1.length d1, .slice B2 (g.f3[i]).f2.length d2, .slice B3 (g.f3[i]).f3.length d3]) g.f3[i] from ⟨B1, d1, B2, d2, B3, d3, rfl, m1, q1, m2, q2, m3, q3⟩)
        have p0' := cell_below G5.out.P.K p0
        have p1' := cell_below G5.out.P.K p1
        have p2' := cell_below G5.out.P.K p2
        have p3' := cell_below G5.out.P.K p3
        have HTK := Aside0.mk (List.take_succ_eq_append_getElem hil)
        have hbt : bulks (g.f3.take i) + (g.f3[i]).bulk ≤ bulks g.f3 := by
          have h9 := bulks_take g.f3 (i + 1)
          rw [HTK.out, bulks_app] at h9
          simp only [bulks] at h9
          omega
        obtain ⟨c, hc⟩ : ∃ c, c = g.f3[i] := ⟨_, rfl⟩
        rw [← hc] at p0' p1' p2' p3' HG HTK hbt
        have hpl := partsB_le os (g.f3.take i) (k + 1)
        have HLN := Aside0.mk (show (o5 ++ partsB os (g.f3.take i) (k + 1)).length + 32 * c.bulk ≤ 70368744177664 ∧ k + 1 + cntL (g.f3.take i) + c.bulk ≤ 1152921504606846976 ∧ c.bulk ≤ n from by
          rw [List.length_append, HO5L.out]
          omega)
        clear hc p0 p1 p2 p3 q1 q2 q3 m1 m2 m3 hbt hpl
        go_wp2_with fail
        have G6 := Aside0.mk (G5.out.below (below_alloc (Below.refl _ _) (.cells #[.int .i64 c.f0, .slice B1 c.f1.length d1, .slice B2 c.f2.length d2, .slice B3 c.f3.length d3] 28)))
        clear G5 p0' p1' p2' p3'
        generalize wr.alloc (.cells #[.int .i64 c.f0, .slice B1 c.f1.length d1, .slice B2 c.f2.length d2, .slice B3 c.f3.length d3] 28) = wl at G6 ⊢
        refine (IH.out c w0 wl gp O co os (k + 1 + cntL (g.f3.take i)) vi (o5 ++ partsB os (g.f3.take i) (k + 1)) _ HLN.out.2.2 G6.out.P HG.out HLN.out.1 HLN.out.2.1 hos).mono ?_
        rintro e w7 ⟨rfl, v7, hp7, hm7⟩
        have G7 := Aside0.mk (G6.out.step hp7 hm7)
        clear G6 hp7 hm7
        go_wp2_with fail
        go_roundg kq
        case measure => omega
        case rel => exact ⟨i + 1, v7, by go_num, by omega, ⟨by have h9 := G7.out; rw [HTK.out, partsB_snoc, cntL_snoc]; simp only [List.append_assoc, Nat.add_assoc] at h9 ⊢; exact h9⟩⟩
end Go.Proofs.YtiiolhnpnlmkjaaDoor.Tree
namespace Go.Proofs.YtiiolhnpnlmkjaaDoor.Tree
open Go.RowKit Go.Proofs.YtiiolhnpnlmkjaaDoorW.PrintWords Go.Proofs.YtiiolhnpnlmkjaaDoorW.PrintLast Go.Proofs.YtiiolhnpnlmkjaaDoorW.PrintMore
structure Stop (p : Prop) : Prop where mk :: (out : p)
/-- A row has grown, perhaps in a new block; no other block that lay there was written. -/
structure OnlyRow (W W' : World) (v v' : Value) : Prop where
  size : W.heap.size ≤ W'.heap.size
  same : ∀ k, k < W.heap.size → some k ≠ v.ownBlock → W'.heap[k]? = W.heap[k]?
  new : ∀ k, v'.ownBlock = some k → v.ownBlock = some k ∨ W.heap.size ≤ k
theorem OnlyRow.trans {W W' W2 : World} {v v' v2 : Value} (h : OnlyRow W W' v v') (k : OnlyRow W' W2 v' v2) : OnlyRow W W2 v v2 :=
  ⟨Nat.le_trans h.size k.size, fun i hi hne => (k.same i (Nat.lt_of_lt_of_le hi h.size) (fun e => by
      rcases h.new i e.symm with h1 | h1
      · exact hne h1.symm
      · omega)).trans (h.same i hi hne), fun i hi => by
      rcases k.new i hi with h1 | h1
      · exact h.new i h1
      · exact .inr (Nat.le_trans h.size h1)⟩
theorem OnlyRow.below {W W' : World} (h : Below W.heap.size W W') (v : Value) : OnlyRow W W' v v := ⟨h.size, fun k hk _ => h.block k hk, fun k hk => .inl hk⟩
theorem OnlyRow.grown {W W' : World} {v v' : Value} (hg : W.grownBy W' v.ownBlock) (hat : v'.ownBlock = v.ownBlock ∨ ∃ b, v'.ownBlock = some b ∧ W.heap.size ≤ b) : OnlyRow W W' v v' :=
  ⟨hg.size, fun k hk hne => hg.block k hk hne, fun k hk => by
    rcases hat with h | ⟨b, h, hb⟩
    · exact .inl (h ▸ hk)
    · rw [h] at hk; cases hk; exact .inr hb⟩
theorem OnlyRow.keep {W W' : World} {v v' : Value} (h : OnlyRow W W' v v') {k : Nat} {o : Obj} (hk : W.heap[k]? = some o) (hne : some k ≠ v.ownBlock) : W'.heap[k]? = some o := (h.same k (blk_lt hk) hne).trans hk
/-- A list of items that a call makes of what came in by w0. -/
def Items (w0 W : World) (v : Value) (l : List It) : Prop := Kd.R (Kd.fixed kIt w0) 139 W w0.heap.size (fun _ => True) v l
/-- An item of such a list, as it lies there. -/
def ItemAt (w0 W : World) (ad : Addr) (x : It) : Prop := ∃ A1 c1 A2 c2 A3 c3, (W.cell? ad = some (.int .i64 x.f0.f0) ∧ W.cell? ⟨ad.block, ad.off + 1, none⟩ = some (.slice A1 x.f0.f1.length c1) ∧ W.cell? ⟨ad.block, ad.off + 2, none⟩ = some (.slice A2 x.f0.f2.length c2) ∧ W.cell? ⟨ad.block, ad.off + 3, none⟩ = some (.slice A3 x.f0.f3.length c3) ∧
  W.cell? ⟨ad.block, ad.off + 4, none⟩ = some (.int .i64 x.f1) ∧ W.cell? ⟨ad.block, ad.off + 5, none⟩ = some (.int .i64 x.f2)) ∧ IsG w0 (.agg #[.int .i64 x.f0.f0, .slice A1 x.f0.f1.length c1, .slice A2 x.f0.f2.length c2, .slice A3 x.f0.f3.length c3]) x.f0
theorem Items.at_ {w0 W : World} {A : Option Addr} {n c : Nat} {l : List It} (h : Items w0 W (.slice A n c) l) (k : Nat) (hk : k < l.length) : n = l.length ∧ ∃ ad, A = some ad ∧ ItemAt w0 W (ad.add (k * 6)) l[k] := by
  obtain ⟨hn, _, hC⟩ := Kd.R_reads' h
  refine ⟨hn, ?_⟩
  obtain ⟨ad, cs, e, _, hK, hc0⟩ := Kd.C_get hC zIt (k : Int) (by omega) (by omega)
  rw [Int.toNat_natCast] at hK hc0
  have hx : l.getD k zIt = l[k] := by simp [List.getD_eq_getElem?_getD, hk]
  rw [hx] at hK
  have hc : ∀ j u, cs[j]? = some u → W.cell? (ad.add (k * 6 + j)) = some u := hc0
  have hK' : kIt.K w0 l[k] cs := hK
  obtain ⟨A1, c1, A2, c2, A3, c3, rfl, r⟩ := kIt_open hK'
  exact ⟨ad, e, A1, c1, A2, c2, A3, c3, ⟨hc 0 _ rfl, by rw [← add_field _ _ 1 (by omega)]; exact hc 1 _ rfl, by rw [← add_field _ _ 2 (by omega)]; exact hc 2 _ rfl, by rw [← add_field _ _ 3 (by omega)]; exact hc 3 _ rfl, by rw [← add_field _ _ 4 (by omega)]; exact hc 4 _ rfl, by rw [← add_field _ _ 5 (by omega)]; exact hc 5 _ rfl⟩,
    A1, c1, A2, c2, A3, c3, rfl, r⟩
theorem ItemAt.below {w0 W W1 : World} {ad : Addr} {x : It} (h : ItemAt w0 W ad x) (hb : Below W.heap.size W W1) : ItemAt w0 W1 ad x := by
  obtain ⟨A1, c1, A2, c2, A3, c3, ⟨e0, e1, e2, e3, e4, e5⟩, r⟩ := h
  exact ⟨A1, c1, A2, c2, A3, c3, ⟨cell_below hb e0, cell_below hb e1, cell_below hb e2, cell_below hb e3, cell_below hb e4, cell_below hb e5⟩, r⟩
/-- The items that the reference looks at. -/
def seen (g : Ge) : List It := (nodes g 1 0).take 65538
def kindB (k : Int) : Bool := decide (1 ≤ k) && decide (k ≤ 7)
def lacksB (g : Ge) : Bool := (decide (0 < g.f1.length) && decide (2 < g.f0)) || ((decide (0 < g.f2.length) && decide (g.f0 ≠ 3)) || (decide (0 < g.f3.length) && decide (g.f0 < 4)))
def shapedB (x : It) : Bool := kindB x.f0.f0 && (fitsB x.f0.f0 x.f2 && (!lacksB x.f0 && ((x.f0.f2.all fun r => !r.isEmpty) && (decide (x.f0.f0 ≠ 1) || decide (x.f0.f1.length ≤ 1)))))
theorem shaped_eq (x : It) : shapedB x = (listsB x.f0 && fitsB x.f0.f0 x.f2) := by
  obtain ⟨⟨k, l, r, p⟩, lv, o⟩ := x
  unfold shapedB listsB kindB lacksB
  dsimp only
  have hR : r.length = 0 → (r.all fun r => !r.isEmpty) = true := by
    intro h
    rw [List.length_eq_zero_iff.1 h]
    rfl
  generalize (r.all fun r => !r.isEmpty) = R at hR ⊢
  generalize fitsB k o = F
  generalize l.length = a at *
  generalize r.length = b at *
  generalize p.length = c at *
  cases F with
  | false => simp
  | true =>
    rw [Bool.eq_iff_iff]
    cases R with
    | false =>
      have hb : b ≠ 0 := fun e => by cases hR e
      by_cases h1 : k = 1
      · simp [h1, hb]
      · by_cases h2 : k = 2
        · simp [h2, hb]
        · by_cases h3 : k = 3
          · simp [h3]
          · by_cases h4 : k = 4 ∨ k = 5 ∨ k = 6 ∨ k = 7
            · rw [if_neg h1, if_neg h2, if_neg h3, if_pos h4]; simp [hb]
            · rw [if_neg h1, if_neg h2, if_neg h3, if_neg h4]; simp
    | true =>
      by_cases h1 : k = 1
      · subst h1; simp <;> omega
      · by_cases h2 : k = 2
        · subst h2; simp <;> omega
        · by_cases h3 : k = 3
          · subst h3; simp <;> omega
          · by_cases h4 : k = 4 ∨ k = 5 ∨ k = 6 ∨ k = 7
            · rw [if_neg h1, if_neg h2, if_neg h3, if_pos h4]; simp <;> omega
            · rw [if_neg h1, if_neg h2, if_neg h3, if_neg h4]; simp <;> omega
def codeOf : Option (Int × Int) → Int
  | none => 0
  | some x => x.2
def placeOf : Option (Int × Int) → Int
  | none => -1
  | some x => x.1
theorem wrong_many (x : It) (n : Int) (h : 65536 < n) : wrongC x n ≠ 0 := by
  unfold wrongC
  split
  · decide
  · simp [h]
    split <;> decide
theorem scan_take : ∀ (m : Nat) (l : List It) (k n : Nat), 1 ≤ m → 65536 < n + m → scanC k n (l.take m) = scanC k n l := by
  intro m
  induction m with
  | zero => intro l k n h; omega
  | succ m ih =>
    intro l k n _ hn
    cases l with
    | nil => rfl
    | cons x l =>
      rw [List.take_succ_cons, scanC_cons, scanC_cons]
      split
      · rename_i h0
        by_cases hm : m = 0
        · exact absurd h0 (wrong_many x _ (by omega))
        · exact ih l _ _ (by omega) (by omega)
      · rfl
theorem checkR_seen (g : Ge) : scanC 0 0 (seen g) = checkR g := by
  unfold seen checkR
  exact scan_take 65538 _ 0 0 (by omega) (by omega)
theorem finL_append (a b : List Pt) : finL (a ++ b) = (finL a && finL b) := by unfold finL finLC; rw [List.all_append]
theorem finL_flat (l : List (List Pt)) : finL l.flatten = l.all finL := by
  induction l with
  | nil => rfl
  | cons a l ih => rw [List.flatten_cons, finL_append, ih, List.all_cons]
theorem finL_own (g : Ge) : finL (own g) = (finL g.f1 && g.f2.all finL) := by unfold own; rw [finL_append, finL_flat]
theorem wrong_eq (x : It) (n : Int) : wrongC x n = if 256 < x.f1 then 151 else if shapedB x = true then (if 65536 < n then 152 else if finL (own x.f0) = true then 0 else 155) else 150 := by
  unfold wrongC
  rw [shaped_eq, finL_own]
/-- The items from k on, so many geometries and points ahead of them. -/
def upAll (g : Ge) (k : Nat) : Nat := k + ptsOf ((seen g).take k)
def Fine (g : Ge) (k : Nat) : Prop := scanC 0 0 (seen g) = scanC k (upAll g k) ((seen g).drop k)
theorem upAll_succ (g : Ge) (k : Nat) (h : k < (seen g).length) : upAll g (k + 1) = upAll g k + 1 + (own (seen g)[k].f0).length := by
  unfold upAll
  rw [List.take_succ_eq_append_getElem h, ptsOf_snoc]
  omega
theorem Fine.bad {g : Ge} {k : Nat} (hf : Fine g k) (h : k < (seen g).length) (hw : wrongC (seen g)[k] ((upAll g (k + 1) : Nat) : Int) ≠ 0) : checkR g = some ((k : Int), wrongC (seen g)[k] ((upAll g (k + 1) : Nat) : Int)) := by
  rw [← checkR_seen, hf, List.drop_eq_getElem_cons h, scanC_cons, ← upAll_succ g k h, if_neg hw]
end Go.Proofs.YtiiolhnpnlmkjaaDoor.Tree
namespace Go.Proofs.YtiiolhnpnlmkjaaDoor
open Go.RowKit Go.Extern.Stop Go.Stop Go.Extern

/-- errors.As(nil, target). -/
theorem as_nil (t : Value) (w : World) :
    Calls Tryd.prog 49 #[.nilIface, t] w fun e w' => e = .returned (.bool false) ∧ w' = w := by
  go_enter Tryd.func49, Tryd.ntmps49
  go_wp2
  go_ret
  exact ⟨rfl, rfl⟩

theorem As_.valueOf79 (t : Addr) (w : World) : (ReflectliteValue.unpack (.iface 111 (.pointer (some t)))).run Tryd.prog w
    = .ok (.agg #[.pointer (some ⟨1, 111, none⟩), .pointer (some ⟨w.heap.size, 0, none⟩), .int .u64 150]) (w.alloc (.cells #[.pointer (some t)] 111)) := by kernel_rfl
theorem As_.type79 (a : Addr) (w : World) : (ReflectliteValue.methodAny (ReflectliteValue.valueError "reflectlite.Value.Type" 0) (fun t _ _ _ => ReflectliteType.toType t) #[.agg #[.pointer (some ⟨1, 111, none⟩), .pointer (some a), .int .u64 150]]).run Tryd.prog w
    = .ok (.iface 182 (.agg #[.pointer (some ⟨1, 111, none⟩)])) w := by kernel_rfl
theorem As_.methodKind (h : Value) (w : World) : (Go.method 328 182 (.agg #[h]) "Kind").run Tryd.prog w = .ok (126, h) w := by kernel_rfl
theorem As_.kind79 (w : World) : ((ReflectliteType.abiMethod fun t => (fun a : Nat => Value.int IntKind.u8 (a : Int)) <$> Rtype.kind t) #[.pointer (some ⟨1, 111, none⟩)]).run Tryd.prog w = .ok (.int .u8 22) w := by kernel_rfl
theorem As_.kind78 (w : World) : ((ReflectliteType.abiMethod fun t => (fun a : Nat => Value.int IntKind.u8 (a : Int)) <$> Rtype.kind t) #[.pointer (some ⟨1, 109, none⟩)]).run Tryd.prog w = .ok (.int .u8 22) w := by kernel_rfl

theorem rlm (z : Sem Value) (f : TypeId → Addr → Nat → Nat → Sem Value) (v : Value) :
    ReflectliteValue.method z f #[v] = (do match ← ReflectliteValue.parts v with | none => z | some (t, a, fl) => f t a fl (fl % 32)) := rfl
theorem As_.parts79 (a : Addr) (w : World) : (ReflectliteValue.parts (.agg #[.pointer (some ⟨1, 111, none⟩), .pointer (some a), .int .u64 150])).run Tryd.prog w = .ok (some (111, a, 150)) w := by kernel_rfl
/-- (Value).IsNil at the Value of a **p.E that is not nil. -/
theorem As_.isNil79 (a p : Addr) (W : World) (ha : W.cell? a = some (.pointer (some p))) :
    (ReflectliteValue.method (ReflectliteValue.valueError "reflectlite.Value.IsNil" 0) ReflectliteValue.isNil #[.agg #[.pointer (some ⟨1, 111, none⟩), .pointer (some a), .int .u64 150]]).run Tryd.prog W = .ok (.bool false) W := by
  rw [rlm]
  simp only [Sem.run_bind, As_.parts79, Result.andThen]
  simp [ReflectliteValue.isNil, loadVar, isAgg, underlying, Tryd.underlying111, ha, Result.andThen]

theorem As_.methodElem (h : Value) (w : World) : (Go.method 328 182 (.agg #[h]) "Elem").run Tryd.prog w = .ok (138, .agg #[h]) w := by kernel_rfl
theorem As_.methodImplements (h : Value) (w : World) : (Go.method 328 182 (.agg #[h]) "Implements").run Tryd.prog w = .ok (139, .agg #[h]) w := by kernel_rfl
theorem As_.methodAssignableTo (h : Value) (w : World) : (Go.method 328 182 (.agg #[h]) "AssignableTo").run Tryd.prog w = .ok (136, .agg #[h]) w := by kernel_rfl
theorem As_.elem79 (w : World) : (ReflectliteType.method ReflectliteType.elem #[.agg #[.pointer (some ⟨1, 111, none⟩)]]).run Tryd.prog w = .ok (.iface 182 (.agg #[.pointer (some ⟨1, 109, none⟩)])) w := by kernel_rfl
theorem As_.implements78 (w : World) : (ReflectliteType.relation "Implements" ReflectliteType.implements_ #[.agg #[.pointer (some ⟨1, 109, none⟩)], .iface 182 (.agg #[.pointer (some ⟨1, 32, none⟩)])]).run Tryd.prog w = .ok (.bool true) w := by kernel_rfl
theorem As_.typeOf78 (v : Value) (w : World) : (ReflectliteType.typeOf #[.iface 109 v]).run Tryd.prog w = .ok (.iface 182 (.agg #[.pointer (some ⟨1, 109, none⟩)])) w := by kernel_rfl
theorem As_.assignable78 (w : World) : (ReflectliteType.relation "AssignableTo" ReflectliteType.assignableTo #[.agg #[.pointer (some ⟨1, 109, none⟩)], .iface 182 (.agg #[.pointer (some ⟨1, 109, none⟩)])]).run Tryd.prog w = .ok (.bool true) w := by kernel_rfl
theorem As_.valueOf78 (e : Addr) (w : World) : (ReflectliteValue.unpack (.iface 109 (.pointer (some e)))).run Tryd.prog w
    = .ok (.agg #[.pointer (some ⟨1, 109, none⟩), .pointer (some ⟨w.heap.size, 0, none⟩), .int .u64 150]) (w.alloc (.cells #[.pointer (some e)] 109)) := by kernel_rfl

theorem As_.elemOf79 (w : World) : (Rtype.elem? 111).run Tryd.prog w = .ok (some 109) w := by kernel_rfl
theorem As_.mk78 (p : Addr) (w : World) : (ReflectliteValue.mk 109 p ReflectliteValue.flagAddr).run Tryd.prog w = .ok (.agg #[.pointer (some ⟨1, 109, none⟩), .pointer (some p), .int .u64 406]) w := by kernel_rfl
/-- (Value).Elem at the Value of a **p.E that is not nil: the Value of the *p.E variable that it points to, addressable. -/
theorem As_.elemV79 (a p : Addr) (W : World) (ha : W.cell? a = some (.pointer (some p))) :
    (ReflectliteValue.method (ReflectliteValue.valueError "reflectlite.Value.Elem" 0) ReflectliteValue.elem #[.agg #[.pointer (some ⟨1, 111, none⟩), .pointer (some a), .int .u64 150]]).run Tryd.prog W
      = .ok (.agg #[.pointer (some ⟨1, 109, none⟩), .pointer (some p), .int .u64 406]) W := by
  rw [rlm]
  simp only [Sem.run_bind, As_.parts79, Result.andThen]
  simp [ReflectliteValue.elem, loadVar, isAgg, underlying, Tryd.underlying111, ha, Result.andThen, As_.elemOf79, As_.mk78]
theorem rls (v x : Value) : ReflectliteValue.set #[v, x] = (do
    let (some (dst, a, fl), some (src, b, _)) := (← ReflectliteValue.parts v, ← ReflectliteValue.parts x)
      | unsupported (.noEntry "extern/(internal/reflectlite.Value).Set.zeroValue")
    if fl / ReflectliteValue.flagAddr % 2 == 0 then unsupported (.noEntry "extern/(internal/reflectlite.Value).Set.unaddressable")
    let val ← loadVar src b
    if ← Rtype.directlyAssignable dst src then storeVar dst a val
    else if ← Rtype.implements dst src then
      if (← Rtype.kind src) == 20 then
        match val with
        | .nilIface => unsupported (.noEntry "extern/reflectlite: a nil value of one interface type handed on as a value of another")
        | _ => storeVar dst a val
      else storeVar dst a (.iface src val)
    else panicString ("reflectlite.Set: value of type " ++ (← Rtype.spelt src) ++ " is not assignable to type " ++ (← Rtype.spelt dst))
    pure (.tuple #[])) := rfl
theorem As_.parts78a (a : Addr) (w : World) : (ReflectliteValue.parts (.agg #[.pointer (some ⟨1, 109, none⟩), .pointer (some a), .int .u64 406])).run Tryd.prog w = .ok (some (109, a, 406)) w := by kernel_rfl
theorem As_.parts78 (a : Addr) (w : World) : (ReflectliteValue.parts (.agg #[.pointer (some ⟨1, 109, none⟩), .pointer (some a), .int .u64 150])).run Tryd.prog w = .ok (some (109, a, 150)) w := by kernel_rfl
theorem As_.direct78 (w : World) : (Rtype.directlyAssignable 109 109).run Tryd.prog w = .ok true w := by kernel_rfl
/-- (Value).Set: the *p.E variable at 'ta' gets what the Value's own variable 'b' holds. -/
theorem As_.set78 (ta b e : Addr) (old : Value) (W : World) (hb : W.cell? b = some (.pointer (some e))) (ht : W.cell? ta = some old) (hf : W.frozen? ta = false) :
    (ReflectliteValue.set #[.agg #[.pointer (some ⟨1, 109, none⟩), .pointer (some ta), .int .u64 406], .agg #[.pointer (some ⟨1, 109, none⟩), .pointer (some b), .int .u64 150]]).run Tryd.prog W
      = .ok (.tuple #[]) (W.setCell ta (.pointer (some e))) := by
  rw [rls]
  simp only [Sem.run_bind, As_.parts78a, As_.parts78, Result.andThen]
  simp [ReflectliteValue.flagAddr, loadVar, isAgg, underlying, Tryd.underlying109, hb, Result.andThen, As_.direct78, storeVar, Value.cells, storeCells, Addr.add]
  rw [run_store Tryd.prog W ta _ _ (by rfl)]
  simp [ht, hf]

set_option maxHeartbeats 4000000 in
theorem as_hit (e t : Addr) (old : Value) (w : World) (hg : w.cell? ⟨0, 0, none⟩ = some (.iface 182 (.agg #[.pointer (some ⟨1, 32, none⟩)]))) (ht0 : w.cell? t = some old) (hf0 : w.frozen? t = false) :
    Calls Tryd.prog 49 #[.iface 109 (.pointer (some e)), .iface 111 (.pointer (some t))] w fun ev w' => ev = .returned (.bool true) ∧ w' = ((((w.alloc (.cells #[.pointer (some t)] 111)).alloc (.cells #[.pointer (some ⟨1, 111, none⟩), .pointer (some ⟨w.heap.size, 0, none⟩), .int .u64 150] 155)).alloc (.cells #[.pointer (some ⟨1, 111, none⟩), .pointer (some ⟨w.heap.size, 0, none⟩), .int .u64 150] 155)).alloc (.cells #[.pointer (some e)] 109)).setCell t (.pointer (some e)) := by
  have h6 := @run_callFunc_extern Tryd.prog 77 _ (fun args => ReflectliteValue.unpack (args.getD 0 (.tuple #[]))) Tryd.func77 (by kernel_rfl) (by kernel_rfl) (by kernel_rfl) (by kernel_rfl)
  have h7 := @run_callFunc_extern Tryd.prog 78 _ (ReflectliteValue.methodAny (ReflectliteValue.valueError "reflectlite.Value.Type" 0) (fun t _ _ _ => ReflectliteType.toType t)) Tryd.func78 (by kernel_rfl) (by kernel_rfl) (by kernel_rfl) (by kernel_rfl)
  have h8 := @run_callFunc_extern Tryd.prog 79 _ (ReflectliteValue.method (ReflectliteValue.valueError "reflectlite.Value.IsNil" 0) ReflectliteValue.isNil) Tryd.func79 (by kernel_rfl) (by kernel_rfl) (by kernel_rfl) (by kernel_rfl)
  have h27 := @run_callFunc_extern Tryd.prog 126 _ (ReflectliteType.abiMethod fun t => do pure (.int .u8 (← Rtype.kind t))) Tryd.func126 (by kernel_rfl) (by kernel_rfl) (by kernel_rfl) (by kernel_rfl)
  have h37 := @run_callFunc_extern Tryd.prog 138 _ (ReflectliteType.method ReflectliteType.elem) Tryd.func138 (by kernel_rfl) (by kernel_rfl) (by kernel_rfl) (by kernel_rfl)
  have h38 := @run_callFunc_extern Tryd.prog 139 _ (ReflectliteType.relation "Implements" ReflectliteType.implements_) Tryd.func139 (by kernel_rfl) (by kernel_rfl) (by kernel_rfl) (by kernel_rfl)
  have h10 := @run_callFunc_extern Tryd.prog 101 _ ReflectliteType.typeOf Tryd.func101 (by kernel_rfl) (by kernel_rfl) (by kernel_rfl) (by kernel_rfl)
  have h35 := @run_callFunc_extern Tryd.prog 136 _ (ReflectliteType.relation "AssignableTo" ReflectliteType.assignableTo) Tryd.func136 (by kernel_rfl) (by kernel_rfl) (by kernel_rfl) (by kernel_rfl)
  have h11 := @run_callFunc_extern Tryd.prog 102 _ (ReflectliteValue.method (ReflectliteValue.valueError "reflectlite.Value.Elem" 0) ReflectliteValue.elem) Tryd.func102 (by kernel_rfl) (by kernel_rfl) (by kernel_rfl) (by kernel_rfl)
  have h12 := @run_callFunc_extern Tryd.prog 103 _ ReflectliteValue.set Tryd.func103 (by kernel_rfl) (by kernel_rfl) (by kernel_rfl) (by kernel_rfl)
  have tO := As_.typeOf78
  have mA := As_.methodAssignableTo
  have a25 := As_.assignable78
  have v25 := As_.valueOf78
  have f6 := As_.valueOf79
  have f7 := As_.type79
  have mK := As_.methodKind
  have mE := As_.methodElem
  have mI := As_.methodImplements
  have k27 := As_.kind79
  have k25 := As_.kind78
  have e27 := As_.elem79
  have i25 := As_.implements78
  have n8 := As_.isNil79 ⟨w.heap.size, 0, none⟩ t ((w.alloc (.cells #[.pointer (some t)] 111)).alloc (.cells #[.pointer (some ⟨1, 111, none⟩), .pointer (some ⟨w.heap.size, 0, none⟩), .int .u64 150] 155)) (by simp)
  have hlt : 0 < w.heap.size := by
    rcases Nat.eq_zero_or_pos w.heap.size with h0 | h
    · simp [World.cell?, h0] at hg
    · exact h
  have hg2 : ((w.alloc (.cells #[.pointer (some t)] 111)).alloc (.cells #[.pointer (some ⟨1, 111, none⟩), .pointer (some ⟨w.heap.size, 0, none⟩), .int .u64 150] 155)).cell? ⟨0, 0, none⟩ = some (.iface 182 (.agg #[.pointer (some ⟨1, 32, none⟩)])) := by
    rw [World.cell?_alloc_lt _ _ ⟨0, 0, none⟩ (by simp), World.cell?_alloc_lt _ _ ⟨0, 0, none⟩ hlt]; exact hg
  have htl : t.block < w.heap.size := by
    rcases Nat.lt_or_ge t.block w.heap.size with h | h
    · exact h
    · simp [World.cell?, Array.getElem?_eq_none h] at ht0
  have el := As_.elemV79 ⟨w.heap.size, 0, none⟩ t (((w.alloc (.cells #[.pointer (some t)] 111)).alloc (.cells #[.pointer (some ⟨1, 111, none⟩), .pointer (some ⟨w.heap.size, 0, none⟩), .int .u64 150] 155)).alloc (.cells #[.pointer (some ⟨1, 111, none⟩), .pointer (some ⟨w.heap.size, 0, none⟩), .int .u64 150] 155)) (by rw [World.cell?_alloc_lt _ _ ⟨w.heap.size, 0, none⟩ (by simp; omega)]; simp)
  have st := As_.set78 t ⟨w.heap.size + 1 + 1 + 1, 0, none⟩ e old ((((w.alloc (.cells #[.pointer (some t)] 111)).alloc (.cells #[.pointer (some ⟨1, 111, none⟩), .pointer (some ⟨w.heap.size, 0, none⟩), .int .u64 150] 155)).alloc (.cells #[.pointer (some ⟨1, 111, none⟩), .pointer (some ⟨w.heap.size, 0, none⟩), .int .u64 150] 155)).alloc (.cells #[.pointer (some e)] 109))
    (by rw [World.cell?_alloc_at _ _ _ _ (by simp)]; rfl)
    (by rw [World.cell?_alloc_lt _ _ t (by simp; omega), World.cell?_alloc_lt _ _ t (by simp; omega), World.cell?_alloc_lt _ _ t (by simp; omega), World.cell?_alloc_lt _ _ t htl]; exact ht0)
    (by rw [World.frozen?_alloc_old _ _ t (by simp; omega), World.frozen?_alloc_old _ _ t (by simp; omega), World.frozen?_alloc_old _ _ t (by simp; omega), World.frozen?_alloc_old _ _ t (Nat.ne_of_lt htl)]; exact hf0)
  go_enter Tryd.func49, Tryd.ntmps49
  go_wp2
  refine wp_loop_rounds 1 ?_
  rw [rounds_succ]
  go_wp2
  go_ret
  exact ⟨rfl, rfl⟩

theorem As_.valueOf77 (t : Addr) (w : World) : (ReflectliteValue.unpack (.iface 114 (.pointer (some t)))).run Tryd.prog w
    = .ok (.agg #[.pointer (some ⟨1, 114, none⟩), .pointer (some ⟨w.heap.size, 0, none⟩), .int .u64 150]) (w.alloc (.cells #[.pointer (some t)] 114)) := by kernel_rfl
theorem As_.type77 (a : Addr) (w : World) : (ReflectliteValue.methodAny (ReflectliteValue.valueError "reflectlite.Value.Type" 0) (fun t _ _ _ => ReflectliteType.toType t) #[.agg #[.pointer (some ⟨1, 114, none⟩), .pointer (some a), .int .u64 150]]).run Tryd.prog w
    = .ok (.iface 182 (.agg #[.pointer (some ⟨1, 114, none⟩)])) w := by kernel_rfl
theorem As_.kind77 (w : World) : ((ReflectliteType.abiMethod fun t => (fun a : Nat => Value.int IntKind.u8 (a : Int)) <$> Rtype.kind t) #[.pointer (some ⟨1, 114, none⟩)]).run Tryd.prog w = .ok (.int .u8 22) w := by kernel_rfl
theorem As_.kind65 (w : World) : ((ReflectliteType.abiMethod fun t => (fun a : Nat => Value.int IntKind.u8 (a : Int)) <$> Rtype.kind t) #[.pointer (some ⟨1, 70, none⟩)]).run Tryd.prog w = .ok (.int .u8 2) w := by kernel_rfl
theorem As_.parts77 (a : Addr) (w : World) : (ReflectliteValue.parts (.agg #[.pointer (some ⟨1, 114, none⟩), .pointer (some a), .int .u64 150])).run Tryd.prog w = .ok (some (114, a, 150)) w := by kernel_rfl
theorem As_.isNil77 (a p : Addr) (W : World) (ha : W.cell? a = some (.pointer (some p))) :
    (ReflectliteValue.method (ReflectliteValue.valueError "reflectlite.Value.IsNil" 0) ReflectliteValue.isNil #[.agg #[.pointer (some ⟨1, 114, none⟩), .pointer (some a), .int .u64 150]]).run Tryd.prog W = .ok (.bool false) W := by
  rw [rlm]
  simp only [Sem.run_bind, As_.parts77, Result.andThen]
  simp [ReflectliteValue.isNil, loadVar, isAgg, underlying, Tryd.underlying114, ha, Result.andThen]
theorem As_.elem77 (w : World) : (ReflectliteType.method ReflectliteType.elem #[.agg #[.pointer (some ⟨1, 114, none⟩)]]).run Tryd.prog w = .ok (.iface 182 (.agg #[.pointer (some ⟨1, 70, none⟩)])) w := by kernel_rfl
theorem As_.implements65 (w : World) : (ReflectliteType.relation "Implements" ReflectliteType.implements_ #[.agg #[.pointer (some ⟨1, 70, none⟩)], .iface 182 (.agg #[.pointer (some ⟨1, 32, none⟩)])]).run Tryd.prog w = .ok (.bool true) w := by kernel_rfl
theorem As_.typeOf65 (v : Value) (w : World) : (ReflectliteType.typeOf #[.iface 70 v]).run Tryd.prog w = .ok (.iface 182 (.agg #[.pointer (some ⟨1, 70, none⟩)])) w := by kernel_rfl
theorem As_.assignable65 (w : World) : (ReflectliteType.relation "AssignableTo" ReflectliteType.assignableTo #[.agg #[.pointer (some ⟨1, 70, none⟩)], .iface 182 (.agg #[.pointer (some ⟨1, 70, none⟩)])]).run Tryd.prog w = .ok (.bool true) w := by kernel_rfl
theorem As_.assignable78no (w : World) : (ReflectliteType.relation "AssignableTo" ReflectliteType.assignableTo #[.agg #[.pointer (some ⟨1, 109, none⟩)], .iface 182 (.agg #[.pointer (some ⟨1, 70, none⟩)])]).run Tryd.prog w = .ok (.bool false) w := by kernel_rfl
theorem As_.valueOf65 (c : Int) (w : World) : (ReflectliteValue.unpack (.iface 70 (.int .i64 c))).run Tryd.prog w
    = .ok (.agg #[.pointer (some ⟨1, 70, none⟩), .pointer (some ⟨w.heap.size, 0, none⟩), .int .u64 130]) (w.alloc (.cells #[.int .i64 c] 70)) := by kernel_rfl
theorem As_.elemOf77 (w : World) : (Rtype.elem? 114).run Tryd.prog w = .ok (some 70) w := by kernel_rfl
theorem As_.mk65 (p : Addr) (w : World) : (ReflectliteValue.mk 70 p ReflectliteValue.flagAddr).run Tryd.prog w = .ok (.agg #[.pointer (some ⟨1, 70, none⟩), .pointer (some p), .int .u64 386]) w := by kernel_rfl
theorem As_.elemV77 (a p : Addr) (W : World) (ha : W.cell? a = some (.pointer (some p))) :
    (ReflectliteValue.method (ReflectliteValue.valueError "reflectlite.Value.Elem" 0) ReflectliteValue.elem #[.agg #[.pointer (some ⟨1, 114, none⟩), .pointer (some a), .int .u64 150]]).run Tryd.prog W
      = .ok (.agg #[.pointer (some ⟨1, 70, none⟩), .pointer (some p), .int .u64 386]) W := by
  rw [rlm]
  simp only [Sem.run_bind, As_.parts77, Result.andThen]
  simp [ReflectliteValue.elem, loadVar, isAgg, underlying, Tryd.underlying114, ha, Result.andThen, As_.elemOf77, As_.mk65]
theorem As_.parts65a (a : Addr) (w : World) : (ReflectliteValue.parts (.agg #[.pointer (some ⟨1, 70, none⟩), .pointer (some a), .int .u64 386])).run Tryd.prog w = .ok (some (70, a, 386)) w := by kernel_rfl
theorem As_.parts65 (a : Addr) (w : World) : (ReflectliteValue.parts (.agg #[.pointer (some ⟨1, 70, none⟩), .pointer (some a), .int .u64 130])).run Tryd.prog w = .ok (some (70, a, 130)) w := by kernel_rfl
theorem As_.direct65 (w : World) : (Rtype.directlyAssignable 70 70).run Tryd.prog w = .ok true w := by kernel_rfl
theorem As_.set65 (ta b : Addr) (c : Int) (old : Value) (W : World) (hb : W.cell? b = some (.int .i64 c)) (ht : W.cell? ta = some old) (hf : W.frozen? ta = false) :
    (ReflectliteValue.set #[.agg #[.pointer (some ⟨1, 70, none⟩), .pointer (some ta), .int .u64 386], .agg #[.pointer (some ⟨1, 70, none⟩), .pointer (some b), .int .u64 130]]).run Tryd.prog W
      = .ok (.tuple #[]) (W.setCell ta (.int .i64 c)) := by
  rw [rls]
  simp only [Sem.run_bind, As_.parts65a, As_.parts65, Result.andThen]
  simp [ReflectliteValue.flagAddr, loadVar, isAgg, underlying, Tryd.underlying70, hb, Result.andThen, As_.direct65, storeVar, Value.cells, storeCells, Addr.add]
  rw [run_store Tryd.prog W ta _ _ (by rfl)]
  simp [ht, hf]
theorem As_.methodUnwrap (h : Value) (w : World) : (Go.method 328 109 h "Unwrap").run Tryd.prog w = .ok (131, h) w := by kernel_rfl
end Go.Proofs.YtiiolhnpnlmkjaaDoor
namespace Go.Proofs.YtiiolhnpnlmkjaaDoor
open Go.RowKit Go.Extern.Stop Go.Stop Go.Extern
theorem As_.no103 (v : Value) (xT : TypeId) (w : World) : (Instr.typeAssert (.iface 109 v) xT 187 true).run Tryd.prog w = .ok (.tuple #[.nilIface, .bool false]) w := run_typeAssert_lacksB Tryd.underlying187 (by kernel_rfl) (by kernel_rfl) v xT w
theorem As_.has106 (v : Value) (xT : TypeId) (w : World) : (Instr.typeAssert (.iface 109 v) xT 190 true).run Tryd.prog w = .ok (.tuple #[.iface 109 v, .bool true]) w := run_typeAssert_hasB Tryd.underlying190 (by kernel_rfl) v xT w
set_option maxHeartbeats 4000000 in
set_option maxRecDepth 100000 in
theorem as_code (g : Nat) (t : Addr) (c : Int) (old : Value) (w : World) (hg : w.cell? ⟨0, 0, none⟩ = some (.iface 182 (.agg #[.pointer (some ⟨1, 32, none⟩)]))) (he : w.cell? ⟨g, 1, none⟩ = some (.iface 70 (.int .i64 c))) (ht0 : w.cell? t = some old) (hf0 : w.frozen? t = false) :
    Calls Tryd.prog 49 #[.iface 109 (.pointer (some ⟨g, 0, none⟩)), .iface 114 (.pointer (some t))] w fun ev w' => ev = .returned (.bool true) ∧ w' = ((((w.alloc (.cells #[.pointer (some t)] 114)).alloc (.cells #[.pointer (some ⟨1, 114, none⟩), .pointer (some ⟨w.heap.size, 0, none⟩), .int .u64 150] 155)).alloc (.cells #[.pointer (some ⟨1, 114, none⟩), .pointer (some ⟨w.heap.size, 0, none⟩), .int .u64 150] 155)).alloc (.cells #[.int .i64 c] 70)).setCell t (.int .i64 c) := by
  have h6 := @run_callFunc_extern Tryd.prog 77 _ (fun args => ReflectliteValue.unpack (args.getD 0 (.tuple #[]))) Tryd.func77 (by kernel_rfl) (by kernel_rfl) (by kernel_rfl) (by kernel_rfl)
  have h7 := @run_callFunc_extern Tryd.prog 78 _ (ReflectliteValue.methodAny (ReflectliteValue.valueError "reflectlite.Value.Type" 0) (fun t _ _ _ => ReflectliteType.toType t)) Tryd.func78 (by kernel_rfl) (by kernel_rfl) (by kernel_rfl) (by kernel_rfl)
  have h8 := @run_callFunc_extern Tryd.prog 79 _ (ReflectliteValue.method (ReflectliteValue.valueError "reflectlite.Value.IsNil" 0) ReflectliteValue.isNil) Tryd.func79 (by kernel_rfl) (by kernel_rfl) (by kernel_rfl) (by kernel_rfl)
  have h27 := @run_callFunc_extern Tryd.prog 126 _ (ReflectliteType.abiMethod fun t => do pure (.int .u8 (← Rtype.kind t))) Tryd.func126 (by kernel_rfl) (by kernel_rfl) (by kernel_rfl) (by kernel_rfl)
  have h37 := @run_callFunc_extern Tryd.prog 138 _ (ReflectliteType.method ReflectliteType.elem) Tryd.func138 (by kernel_rfl) (by kernel_rfl) (by kernel_rfl) (by kernel_rfl)
  have h38 := @run_callFunc_extern Tryd.prog 139 _ (ReflectliteType.relation "Implements" ReflectliteType.implements_) Tryd.func139 (by kernel_rfl) (by kernel_rfl) (by kernel_rfl) (by kernel_rfl)
  have h10 := @run_callFunc_extern Tryd.prog 101 _ ReflectliteType.typeOf Tryd.func101 (by kernel_rfl) (by kernel_rfl) (by kernel_rfl) (by kernel_rfl)
  have h35 := @run_callFunc_extern Tryd.prog 136 _ (ReflectliteType.relation "AssignableTo" ReflectliteType.assignableTo) Tryd.func136 (by kernel_rfl) (by kernel_rfl) (by kernel_rfl) (by kernel_rfl)
  have h11 := @run_callFunc_extern Tryd.prog 102 _ (ReflectliteValue.method (ReflectliteValue.valueError "reflectlite.Value.Elem" 0) ReflectliteValue.elem) Tryd.func102 (by kernel_rfl) (by kernel_rfl) (by kernel_rfl) (by kernel_rfl)
  have h12 := @run_callFunc_extern Tryd.prog 103 _ ReflectliteValue.set Tryd.func103 (by kernel_rfl) (by kernel_rfl) (by kernel_rfl) (by kernel_rfl)
  have tO := As_.typeOf78
  have tO2 := As_.typeOf65
  have a65 := As_.assignable65
  have aNo := As_.assignable78no
  have v65 := As_.valueOf65
  have k65 := As_.kind65
  have i65 := As_.implements65
  have mU := As_.methodUnwrap
  have n103 := As_.no103
  have y106 := As_.has106
  have mA := As_.methodAssignableTo
  have a25 := As_.assignable78
  have v25 := As_.valueOf78
  have f6 := As_.valueOf77
  have f7 := As_.type77
  have mK := As_.methodKind
  have mE := As_.methodElem
  have mI := As_.methodImplements
  have k27 := As_.kind77
  have k25 := As_.kind78
  have e27 := As_.elem77
  have i25 := As_.implements78
  have n8 := As_.isNil77 ⟨w.heap.size, 0, none⟩ t ((w.alloc (.cells #[.pointer (some t)] 114)).alloc (.cells #[.pointer (some ⟨1, 114, none⟩), .pointer (some ⟨w.heap.size, 0, none⟩), .int .u64 150] 155)) (by simp)
  have hlt : 0 < w.heap.size := by
    rcases Nat.eq_zero_or_pos w.heap.size with h0 | h
    · simp [World.cell?, h0] at hg
    · exact h
  have hg2 : ((w.alloc (.cells #[.pointer (some t)] 114)).alloc (.cells #[.pointer (some ⟨1, 114, none⟩), .pointer (some ⟨w.heap.size, 0, none⟩), .int .u64 150] 155)).cell? ⟨0, 0, none⟩ = some (.iface 182 (.agg #[.pointer (some ⟨1, 32, none⟩)])) := by
    rw [World.cell?_alloc_lt _ _ ⟨0, 0, none⟩ (by simp), World.cell?_alloc_lt _ _ ⟨0, 0, none⟩ hlt]; exact hg
  have htl : t.block < w.heap.size := by
    rcases Nat.lt_or_ge t.block w.heap.size with h | h
    · exact h
    · simp [World.cell?, Array.getElem?_eq_none h] at ht0
  have el := As_.elemV77 ⟨w.heap.size, 0, none⟩ t (((w.alloc (.cells #[.pointer (some t)] 114)).alloc (.cells #[.pointer (some ⟨1, 114, none⟩), .pointer (some ⟨w.heap.size, 0, none⟩), .int .u64 150] 155)).alloc (.cells #[.pointer (some ⟨1, 114, none⟩), .pointer (some ⟨w.heap.size, 0, none⟩), .int .u64 150] 155)) (by rw [World.cell?_alloc_lt _ _ ⟨w.heap.size, 0, none⟩ (by simp; omega)]; simp)
  have st := As_.set65 t ⟨w.heap.size + 1 + 1 + 1, 0, none⟩ c old ((((w.alloc (.cells #[.pointer (some t)] 114)).alloc (.cells #[.pointer (some ⟨1, 114, none⟩), .pointer (some ⟨w.heap.size, 0, none⟩), .int .u64 150] 155)).alloc (.cells #[.pointer (some ⟨1, 114, none⟩), .pointer (some ⟨w.heap.size, 0, none⟩), .int .u64 150] 155)).alloc (.cells #[.int .i64 c] 70))
    (by rw [World.cell?_alloc_at _ _ _ _ (by simp)]; rfl)
    (by rw [World.cell?_alloc_lt _ _ t (by simp; omega), World.cell?_alloc_lt _ _ t (by simp; omega), World.cell?_alloc_lt _ _ t (by simp; omega), World.cell?_alloc_lt _ _ t htl]; exact ht0)
    (by rw [World.frozen?_alloc_old _ _ t (by simp; omega), World.frozen?_alloc_old _ _ t (by simp; omega), World.frozen?_alloc_old _ _ t (by simp; omega), World.frozen?_alloc_old _ _ t (Nat.ne_of_lt htl)]; exact hf0)
  have hgl : g < w.heap.size := by
    rcases Nat.lt_or_ge g w.heap.size with h | h
    · exact h
    · simp [World.cell?, Array.getElem?_eq_none h] at he
  have he2 : (((w.alloc (.cells #[.pointer (some t)] 114)).alloc (.cells #[.pointer (some ⟨1, 114, none⟩), .pointer (some ⟨w.heap.size, 0, none⟩), .int .u64 150] 155)).alloc (.cells #[.pointer (some ⟨1, 114, none⟩), .pointer (some ⟨w.heap.size, 0, none⟩), .int .u64 150] 155)).cell? ⟨g, 1, none⟩ = some (.iface 70 (.int .i64 c)) := by
    rw [World.cell?_alloc_lt _ _ ⟨g, 1, none⟩ (by simp; omega), World.cell?_alloc_lt _ _ ⟨g, 1, none⟩ (by simp; omega), World.cell?_alloc_lt _ _ ⟨g, 1, none⟩ hgl]; exact he
  go_enter Tryd.func49, Tryd.ntmps49
  go_wp2
  refine wp_loop_rounds 2 ?_
  rw [rounds_succ]
  go_wp2
  rw [rounds_succ]
  go_wp2
  go_ret
  exact ⟨rfl, rfl⟩

end Go.Proofs.YtiiolhnpnlmkjaaDoor
namespace Go.Proofs.YtiiolhnpnlmkjaaDoor.Tree
open Go.Proofs.YtiiolhnpnlmkjaaDoor
open Go.RowKit Go.Extern.Stop Go.Stop Go.Extern Go.Proofs.YtiiolhnpnlmkjaaDoorW.PrintWords
def Handle (w : World) : Prop := w.cell? ⟨0, 0, none⟩ = some (.iface 182 (.agg #[.pointer (some ⟨1, 32, none⟩)]))
theorem cell5 {w : World} {a : Addr} {v : Value} (h : w.cell? a = some v) (o1 o2 o3 o4 o5 : Obj) : (((((w.alloc o1).alloc o2).alloc o3).alloc o4).alloc o5).cell? a = some v := by
  have hl := World.block_lt_of_cell? w a h
  rw [World.cell?_alloc_lt _ _ a (by simp; omega), World.cell?_alloc_lt _ _ a (by simp; omega), World.cell?_alloc_lt _ _ a (by simp; omega), World.cell?_alloc_lt _ _ a (by simp; omega), World.cell?_alloc_lt _ _ a hl]; exact h
theorem cell_lt {w : World} {a : Addr} {v : Value} (h : w.cell? a = some v) : a.block < w.heap.size := World.block_lt_of_cell? w a h
set_option maxHeartbeats 4000000 in
set_option maxRecDepth 100000 in
theorem code_calls (g : Nat) (c : Int) (w : World) (hg : Handle w) (he : w.cell? ⟨g, 1, none⟩ = some (.iface 70 (.int .i64 c))) :
    Calls Tryd.prog 32 #[.iface 109 (.pointer (some ⟨g, 0, none⟩))] w fun e w' => e = .returned (.int .i64 c) ∧ Below w.heap.size w w' := by
  have hgA : (w.alloc (.cells #[.int .i64 0] 70)).cell? ⟨0, 0, none⟩ = some (.iface 182 (.agg #[.pointer (some ⟨1, 32, none⟩)])) := by
    rw [World.cell?_alloc_lt _ _ ⟨0, 0, none⟩ (cell_lt hg)]; exact hg
  have heA : (w.alloc (.cells #[.int .i64 0] 70)).cell? ⟨g, 1, none⟩ = some (.iface 70 (.int .i64 c)) := by
    rw [World.cell?_alloc_lt _ _ ⟨g, 1, none⟩ (cell_lt he)]; exact he
  have htA : (w.alloc (.cells #[.int .i64 0] 70)).cell? ⟨w.heap.size, 0, none⟩ = some (.int .i64 0) := by simp
  have hfA : (w.alloc (.cells #[.int .i64 0] 70)).frozen? ⟨w.heap.size, 0, none⟩ = false := by simp
  go_enter Tryd.func32, Tryd.ntmps32
  go_wp2_with fail
  refine (as_code g ⟨w.heap.size, 0, none⟩ c (.int .i64 0) _ hgA heA htA hfA).mono ?_
  rintro e w' ⟨rfl, rfl⟩
  go_wp2_with fail
  go_ret
  exact ⟨rfl, by repeat (first | exact Below.refl _ _ | apply below_alloc)⟩
set_option maxHeartbeats 4000000 in
set_option maxRecDepth 100000 in
theorem place_calls (g : Nat) (p : Int) (w : World) (hg : Handle w) (he : w.cell? ⟨g, 0, none⟩ = some (.int .i64 p)) :
    Calls Tryd.prog 30 #[.iface 109 (.pointer (some ⟨g, 0, none⟩))] w fun e w' => e = .returned (.int .i64 p) ∧ Below w.heap.size w w' := by
  have hgA : (w.alloc (.cells #[.pointer none] 109)).cell? ⟨0, 0, none⟩ = some (.iface 182 (.agg #[.pointer (some ⟨1, 32, none⟩)])) := by
    rw [World.cell?_alloc_lt _ _ ⟨0, 0, none⟩ (cell_lt hg)]; exact hg
  have htA : (w.alloc (.cells #[.pointer none] 109)).cell? ⟨w.heap.size, 0, none⟩ = some (.pointer none) := by simp
  have hfA : (w.alloc (.cells #[.pointer none] 109)).frozen? ⟨w.heap.size, 0, none⟩ = false := by simp
  have he5 := fun o1 o2 o3 o4 o5 => cell5 he o1 o2 o3 o4 o5
  go_enter Tryd.func30, Tryd.ntmps30
  go_wp2_with fail
  refine (as_hit ⟨g, 0, none⟩ ⟨w.heap.size, 0, none⟩ (.pointer none) _ hgA htA hfA).mono ?_
  rintro e w' ⟨rfl, rfl⟩
  go_wp2_with fail
  go_ret
  exact ⟨rfl, by repeat (first | exact Below.refl _ _ | apply below_alloc)⟩
theorem Handle_below {w w1 : World} (h : Handle w) (hb : Below w.heap.size w w1) : Handle w1 := (hb.cell (World.block_lt_of_cell? w _ h)).trans h
set_option maxHeartbeats 4000000 in
set_option maxRecDepth 100000 in
theorem code_nil (w : World) : Calls Tryd.prog 32 #[.nilIface] w fun e w' => e = .returned (.int .i64 0) ∧ Below w.heap.size w w' := by
  go_enter Tryd.func32, Tryd.ntmps32
  go_wp2_with fail
  go_ret
  exact ⟨rfl, by repeat (first | exact Below.refl _ _ | apply below_alloc)⟩
set_option maxHeartbeats 4000000 in
set_option maxRecDepth 100000 in
theorem place_nil (w : World) : Calls Tryd.prog 30 #[.nilIface] w fun e w' => e = .returned (.int .i64 (-1)) ∧ Below w.heap.size w w' := by
  go_enter Tryd.func30, Tryd.ntmps30
  go_wp2_with fail
  refine (as_nil _ _).mono ?_
  rintro e w' ⟨rfl, rfl⟩
  go_wp2_with fail
  go_ret
  exact ⟨rfl, by repeat (first | exact Below.refl _ _ | apply below_alloc)⟩
theorem Code_calls (v : Value) (x : Option (Int × Int)) (w : World) (hg : Handle w) (hv : ErrV w v x) :
    Calls Tryd.prog 32 #[v] w fun e w' => e = .returned (.int .i64 (codeOf x)) ∧ Below w.heap.size w w' := by
  cases x with
  | none => obtain rfl : v = .nilIface := hv; exact code_nil w
  | some x =>
    obtain ⟨g, rfl, h⟩ := hv
    exact code_calls g x.2 w hg ((blk_cell h 1).trans rfl)
theorem Place_calls (v : Value) (x : Option (Int × Int)) (w : World) (hg : Handle w) (hv : ErrV w v x) :
    Calls Tryd.prog 30 #[v] w fun e w' => e = .returned (.int .i64 (placeOf x)) ∧ Below w.heap.size w w' := by
  cases x with
  | none => obtain rfl : v = .nilIface := hv; exact place_nil w
  | some x =>
    obtain ⟨g, rfl, h⟩ := hv
    exact place_calls g x.1 w hg ((blk_cell h 0).trans rfl)
end Go.Proofs.YtiiolhnpnlmkjaaDoor.Tree
namespace Go.Proofs.YtiiolhnpnlmkjaaDoor.Tree
open Go.RowKit Go.Proofs.YtiiolhnpnlmkjaaDoor.PWkbPrints Go.Proofs.YtiiolhnpnlmkjaaDoorW.PrintWords Go.Proofs.YtiiolhnpnlmkjaaDoorW.PrintLast Go.Proofs.YtiiolhnpnlmkjaaDoorW.PrintMore
attribute [local go_sem] Oper.semAt_some max2_int max_two min2_int min_two
/-- What is written: nothing, where the check does not take the tree. -/
def mixedB (os : List Bool) (g : Ge) : List Int := if checkR g = none then geoB os g 0 else []
theorem ErrV.iface {w : World} {v : Value} {a c : Int} (h : ErrV w v (some (a, c))) : ∃ g : Nat, v = .iface 109 (.pointer (some ⟨g, 0, none⟩)) := by
  obtain ⟨g, e, _⟩ := h
  exact ⟨g, e⟩
set_option maxRecDepth 100000 in
set_option maxHeartbeats 16000000 in
theorem mixed_calls (v : Value) (g : Ge) (O : Option Addr) (co : Nat) (os : List Bool) (w : World) (hv : IsG w v g) (ho : Kd.bool.C w O os.length os) (hbk : g.bulk ≤ 2097152) (hos : os.length ≤ 1152921504606846976) :
    Calls Tryd.prog 24 #[v, .slice O os.length co] w fun e w' => ∃ u er, e = .returned (.tuple #[u, er]) ∧ kB.R 5 w' w.heap.size (fun _ => True) u (mixedB os g) ∧ ErrV w' er (checkR g) ∧ Below w.heap.size w w' := by
  have hv' := hv
  obtain ⟨A1, c1, A2, c2, A3, c3, rfl, l1, h1, l2, h2, l3, h3⟩ := hv'
  have HV := Aside0.mk hv
  have HO := Aside0.mk ho
  clear hv ho h1 h2 h3
  go_enter Tryd.func24, Tryd.ntmps24
  go_wp2_with fail
  obtain ⟨gb, hgb⟩ : ∃ y, y = w.heap.size := ⟨_, rfl⟩
  obtain ⟨W1, hW1⟩ : ∃ y, y = w.alloc (.cells #[.int .i64 g.f0, .slice A1 g.f1.length c1, .slice A2 g.f2.length c2, .slice A3 g.f3.length c3] 28) := ⟨_, rfl⟩
  rw [← hW1, ← hgb]
  have HB1 := Aside0.mk (show Below w.heap.size w W1 by rw [hW1]; exact below_alloc (Below.refl _ _) _)
  have BK := Aside0.mk (show W1.heap[gb]? = some (.cells #[.int .i64 g.f0, .slice A1 g.f1.length c1, .slice A2 g.f2.length c2, .slice A3 g.f3.length c3] 28 (0, 0)) by rw [hW1, hgb]; exact World.alloc_heap_new _ _)
  clear hW1 hgb
  refine (check_calls _ g W1 (HV.out.below HB1.out) (by omega)).mono ?_
  rintro e W2 ⟨er, rfl, her, hb2⟩
  have HB2 := Aside0.mk (below_step HB1.out hb2)
  have BK2 := Aside0.mk ((hb2.block gb (blk_lt BK.out)).trans BK.out)
  have HER := Aside0.mk her
  clear HB1 BK her hb2
  rcases hck : checkR g with _ | ⟨a, c⟩
  · obtain rfl : er = .nilIface := by have h9 := HER.out; rw [hck] at h9; exact h9
    have hb3 : Below W2.heap.size W2 (W2.alloc (.cells #[.slice none 0 0, .slice O os.length co, .int .i64 0] 103)) := below_alloc (Below.refl _ _) _
    have z0_ := pw_cell_below hb3 ((blk_cell BK2.out 0).trans rfl : W2.cell? ⟨gb, 0, none⟩ = some (.int .i64 g.f0))
    have z1_ := pw_cell_below hb3 ((blk_cell BK2.out 1).trans rfl : W2.cell? ⟨gb, 1, none⟩ = some (.slice A1 g.f1.length c1))
    have z2_ := pw_cell_below hb3 ((blk_cell BK2.out 2).trans rfl : W2.cell? ⟨gb, 2, none⟩ = some (.slice A2 g.f2.length c2))
    have z3_ := pw_cell_below hb3 ((blk_cell BK2.out 3).trans rfl : W2.cell? ⟨gb, 3, none⟩ = some (.slice A3 g.f3.length c3))
    have HP := Aside0.mk (show Pr 103 cfP W2 (W2.alloc (.cells #[.slice none 0 0, .slice O os.length co, .int .i64 0] 103)) W2.heap.size O co os 0 (.slice none 0 0) [] from
      ⟨World.alloc_heap_new _ _, Kd.R_nil _ _ _ _ _, Kd.C_below HO.out HB2.out, Nat.le_refl _, hb3⟩)
    clear hb3
    go_wp2_with fail
    refine (pgeom_calls g.bulk g W2 _ W2.heap.size O co os 0 _ [] _ (Nat.le_refl _) HP.out (HV.out.below HB2.out) (by simp; omega) (by omega) hos).mono ?_
    rintro e W4 ⟨rfl, v4, hp4, -⟩
    obtain ⟨A4, c4, rfl⟩ := Kd.R_slice hp4.r
    have z0_ : W4.cell? ⟨W2.heap.size, 0, none⟩ = some (.slice A4 ([] ++ geoB os g 0).length c4) := (blk_cell hp4.c 0).trans rfl
    rw [List.nil_append] at z0_ hp4
    have HP4 := Aside0.mk hp4
    clear hp4 HP
    go_wp2_with fail
    refine bodyPost_ret (results_tmp2 rfl _ _ _) rfl ?_
    exact ⟨.slice A4 (geoB os g 0).length c4, .nilIface, rfl, by rw [mixedB, if_pos hck]; exact Kd.R_lower (Kd.R_mono HP4.out.r (fun _ _ => trivial)) HB2.out.size, by rw [hck]; rfl, below_step HB2.out HP4.out.K⟩
  · obtain ⟨ge, rfl⟩ := ErrV.iface (by have h9 := HER.out; rw [hck] at h9; exact h9)
    go_wp2_with fail
    refine bodyPost_ret (results_tmp2 rfl _ _ _) rfl ?_
    exact ⟨.slice none 0 0, .iface 109 (.pointer (some ⟨ge, 0, none⟩)), rfl, by rw [mixedB, if_neg (by rw [hck]; simp)]; exact Kd.R_nil _ _ _ _ _, HER.out, HB2.out⟩
theorem bool_lit (W : World) (le : Bool) : Kd.bool.C (W.alloc (.cells #[.bool le] 4)) (some ⟨W.heap.size, 0, none⟩) 1 [le] := by
  have h : Kd.bool.R 4 (W.alloc (.cells #[.bool le] 4)) W.heap.size (fun _ => True) (.slice (some ⟨W.heap.size, 0, none⟩) 1 1) [le] :=
    Kd.R_of_own ⟨by simp [encs], .inr ⟨W.heap.size, 1, #[.bool le], rfl, Nat.le_refl _, World.alloc_heap_new _ _, Nat.le_refl _, by decide, by simp, by simp [encs]⟩⟩ (fun _ _ => trivial)
  exact (Kd.R_reads' h).2.2
set_option maxRecDepth 100000 in
set_option maxHeartbeats 16000000 in
theorem print_calls (v : Value) (g : Ge) (le : Bool) (w : World) (hv : IsG w v g) (hbk : g.bulk ≤ 2097152) :
    Calls Tryd.prog 22 #[v, .bool le] w fun e w' => ∃ u er, e = .returned (.tuple #[u, er]) ∧ kB.R 5 w' w.heap.size (fun _ => True) u (mixedB [le] g) ∧ ErrV w' er (checkR g) ∧ Below w.heap.size w w' := by
  have hv' := hv
  obtain ⟨A1, c1, A2, c2, A3, c3, rfl, l1, h1, l2, h2, l3, h3⟩ := hv'
  have HV := Aside0.mk hv
  clear hv h1 h2 h3
  go_enter Tryd.func22, Tryd.ntmps22
  go_wp2_with fail
  have hba : Below w.heap.size w (w.alloc (.cells #[.int .i64 g.f0, .slice A1 g.f1.length c1, .slice A2 g.f2.length c2, .slice A3 g.f3.length c3] 28)) := below_alloc (Below.refl _ _) _
  have hbb : Below w.heap.size w ((w.alloc (.cells #[.int .i64 g.f0, .slice A1 g.f1.length c1, .slice A2 g.f2.length c2, .slice A3 g.f3.length c3] 28)).alloc (.cells #[.bool le] 4)) := below_alloc hba _
  have hlt := bool_lit (w.alloc (.cells #[.int .i64 g.f0, .slice A1 g.f1.length c1, .slice A2 g.f2.length c2, .slice A3 g.f3.length c3] 28)) le
  rw [show (w.alloc (.cells #[.int .i64 g.f0, .slice A1 g.f1.length c1, .slice A2 g.f2.length c2, .slice A3 g.f3.length c3] 28)).heap.size = w.heap.size + 1 from by simp] at hlt
  refine (mixed_calls _ g (some ⟨w.heap.size + 1, 0, none⟩) 1 [le] _ (HV.out.below hbb) hlt hbk (by simp)).mono ?_
  rintro e W2 ⟨u, er, rfl, hu, her, hb2⟩
  have HU := Aside0.mk (And.intro (Kd.R_lower hu hbb.size) (And.intro her (below_step hbb hb2)))
  clear hba hbb hlt hu her hb2
  go_wp2_with fail
  refine bodyPost_ret (results_tmp2 rfl _ _ _) rfl ?_
  exact ⟨u, er, rfl, HU.out.1, HU.out.2.1, HU.out.2.2⟩
set_option maxRecDepth 100000 in
set_option maxHeartbeats 8000000 in
theorem told_yes (v : Value) (x : Option (Int × Int)) (at_ : Int) (w : World) (hg : Handle w) (hv : ErrV w v x) (hc : x ≠ none → codeOf x ≠ 0 ∧ at_ = placeOf x) :
    Calls Tryd.prog 14 #[v, .int .i64 (codeOf x), .int .i64 at_] w fun e w' => e = .returned (.bool true) ∧ Below w.heap.size w w' := by
  rcases hx : x with _ | ⟨a, c⟩
  · subst hx
    obtain rfl : v = .nilIface := hv
    have h0 : codeOf none = 0 := rfl
    rw [h0]
    clear hc
    go_enter Tryd.func14, Tryd.ntmps14
    go_wp2_with fail
    go_ret
    exact ⟨rfl, Below.refl _ _⟩
  · obtain ⟨h0, rfl⟩ := hc (by rw [hx]; simp)
    rw [← hx]
    obtain ⟨ge, rfl⟩ := ErrV.iface (by rw [hx] at hv; exact hv)
    have HG := Aside0.mk hg
    have HV := Aside0.mk hv
    obtain ⟨cc, hcc⟩ : ∃ y, y = codeOf x := ⟨_, rfl⟩
    obtain ⟨pp, hpp⟩ : ∃ y, y = placeOf x := ⟨_, rfl⟩
    have HCC := Aside0.mk hcc
    have HPP := Aside0.mk hpp
    rw [← hcc] at h0 ⊢
    rw [← hpp]
    have h0' : (cc == 0) = false := beq_eq_false_iff_ne.2 h0
    clear hcc hpp hx hg hv hc
    go_enter Tryd.func14, Tryd.ntmps14
    go_wp2_with fail
    refine (Code_calls _ x w HG.out HV.out).mono ?_
    rintro e w1 ⟨rfl, hb1⟩
    have HB1 := Aside0.mk hb1
    clear hb1
    rw [← HCC.out]
    go_wp2_with fail
    refine (Place_calls _ x w1 (Handle_below HG.out HB1.out) (HV.out.below HB1.out)).mono ?_
    rintro e w2 ⟨rfl, hb2⟩
    have HB2 := Aside0.mk (below_step HB1.out hb2)
    clear hb2
    rw [← HPP.out]
    go_wp2_with fail
    go_ret
    exact ⟨by simp, HB2.out⟩
end Go.Proofs.YtiiolhnpnlmkjaaDoor.Tree
namespace Go.Proofs.YtiiolhnpnlmkjaaDoor.Tree
open Go.RowKit Go.Proofs.YtiiolhnpnlmkjaaDoor.PWkbPrints Go.Proofs.YtiiolhnpnlmkjaaDoorW.PrintWords Go.Proofs.YtiiolhnpnlmkjaaDoorW.PrintLast Go.Proofs.YtiiolhnpnlmkjaaDoorW.PrintMore
attribute [local go_sem] Oper.semAt_some max2_int max_two min2_int min_two
end Go.Proofs.YtiiolhnpnlmkjaaDoor.Tree
namespace Go.Proofs.YtiiolhnpnlmkjaaDoor.Tree
open Go.RowKit Go.Proofs.YtiiolhnpnlmkjaaDoor.PWkbPrints Go.Proofs.YtiiolhnpnlmkjaaDoorW.PrintWords Go.Proofs.YtiiolhnpnlmkjaaDoorW.PrintLast Go.Proofs.YtiiolhnpnlmkjaaDoorW.PrintMore
theorem scan_all : ∀ (l : List It) (k n : Nat), scanC k n l = none → ∀ x ∈ l, shapedB x = true := by
  intro l
  induction l with
  | nil => intro k n _ x hx; cases hx
  | cons y l ih =>
    intro k n h x hx
    rw [scanC_cons] at h
    split at h
    · rename_i h0
      rcases List.mem_cons.1 hx with rfl | hx
      · rw [wrong_eq] at h0
        by_cases hs : shapedB x = true
        · exact hs
        · exfalso
          rw [if_neg hs] at h0
          split at h0 <;> cases h0
      · exact ih _ _ h x hx
    · cases h
/-- Every geometry of a tree is shaped. -/
def AllS (g : Ge) (lvl o : Int) : Prop := ∀ x ∈ nodes g lvl o, shapedB x = true
theorem AllS.of {g : Ge} (h : checkR g = none) : AllS g 1 0 := scan_all _ _ _ h
theorem AllS.part {g p : Ge} {lvl o : Int} (h : AllS g lvl o) (hp : p ∈ g.f3) : AllS p (lvl + 1) g.f0 := by
  intro x hx
  refine h x ?_
  rw [nodes_eq]
  refine List.mem_cons_of_mem _ ?_
  rw [nodesL_flat]
  exact List.mem_flatten.2 ⟨_, List.mem_map.2 ⟨p, hp, rfl⟩, hx⟩
end Go.Proofs.YtiiolhnpnlmkjaaDoor.Tree
