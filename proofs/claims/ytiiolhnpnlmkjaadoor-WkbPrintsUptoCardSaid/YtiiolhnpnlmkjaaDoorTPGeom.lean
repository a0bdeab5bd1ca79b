/- The printer's geom by contract. No conditions but those told. -/
import Derived.Test.YtiiolhnpnlmkjaaDoorTGeoB
namespace Go.Proofs.YtiiolhnpnlmkjaaDoor.Tree
open Go.RowKit Go.Proofs.YtiiolhnpnlmkjaaDoor.PWkbPrints Go.Proofs.YtiiolhnpnlmkjaaDoorW.PrintWords Go.Proofs.YtiiolhnpnlmkjaaDoorW.PrintLast Go.Proofs.YtiiolhnpnlmkjaaDoorW.PrintMore
set_option linter.unusedVariables false
set_option linter.unusedSimpArgs false
attribute [local go_sem] Oper.semAt_some max2_int max_two min2_int min_two
set_option maxRecDepth 100000 in
set_option maxHeartbeats 16000000 in
theorem pgeom_calls (n : Nat) : ∀ (g : Ge) (w0 W : World) (gp : Nat) (O : Option Addr) (co : Nat) (os : List Bool) (k : Nat) (vo : Value) (out : List Int) (v : Value), g.bulk ≤ n → Pr 103 cfP w0 W gp O co os k vo out → IsG w0 v g → out.length + 32 * g.bulk ≤ 70368744177664 → k + g.bulk ≤ 1152921504606846976 → os.length ≤ 1152921504606846976 →
    Calls Tryd.prog 46 #[.pointer (some ⟨gp, 0, none⟩), v] W fun e W' => e = .returned (.tuple #[]) ∧ ∃ vo', Pr 103 cfP w0 W' gp O co os (k + cntG g) vo' (out ++ geoB os g k) ∧ Mv W W' gp vo vo' := by
  induction n with
  | zero => intro g w0 W gp O co os k vo out v h; have := g.bulk_eq; omega
  | succ n ih =>
  intro g w0 W gp O co os k vo out v hbk hP hv hl hk hos
  obtain ⟨A1, c1, A2, c2, A3, c3, rfl, l1, h1, l2, h2, l3, h3⟩ := hv
  have hbq := g.bulk_eq
  have HE := Aside0.mk (geoB_eq os g k)
  have HN := Aside0.mk (cntG_eq g)
  have H1 := Aside0.mk h1
  have H2 := Aside0.mk h2
  have H3 := Aside0.mk h3
  have IH := Aside0.mk ih
  have HP := Aside0.mk hP
  clear h1 h2 h3 ih hP
  go_enter Tryd.func46, Tryd.ntmps46
  go_wp2_with fail
  obtain ⟨gb, hgb⟩ : ∃ y, y = W.heap.size := ⟨_, rfl⟩
  obtain ⟨W1, hW1⟩ : ∃ y, y = W.alloc (.cells #[.int .i64 g.f0, .slice A1 g.f1.length c1, .slice A2 g.f2.length c2, .slice A3 g.f3.length c3] 28) := ⟨_, rfl⟩
  rw [← hW1, ← hgb]
  have hb1 : Below W.heap.size W W1 := by rw [hW1]; exact below_alloc (Below.refl _ _) _
  have G1 := Aside0.mk (show Gs 103 cfP w0 W W1 gp O co os k vo vo out gb #[.int .i64 g.f0, .slice A1 g.f1.length c1, .slice A2 g.f2.length c2, .slice A3 g.f3.length c3] from ⟨HP.out.below hb1, Mv.below gp vo hb1, by rw [hW1, hgb]; exact World.alloc_heap_new _ _, by have := blk_lt HP.out.c; omega⟩)
  clear hb1 hW1 hgb HP
  refine (order_calls w0 W1 gp O co os k vo out G1.out.P (by omega) hos).mono ?_
  rintro e w2 ⟨rfl, hp2, hm2⟩
  have G2 := Aside0.mk (G1.out.step hp2 hm2)
  have hol : out.length ≤ 70368744177664 := by omega
  clear G1 hp2 hm2
  have hs0 : w2.cell? ⟨gp, 0, none⟩ = some vo := (blk_cell G2.out.P.c 0).trans rfl
  go_upto_if 11 with fail
  go_cut [4] from 9 to 29 (fun c wx => c = .bool (ordAt os k) ∧ ∃ v1, Gs 103 cfP w0 W wx gp O co os (k + 1) vo v1 (out ++ bitB (ordAt os k)) gb #[.int .i64 g.f0, .slice A1 g.f1.length c1, .slice A2 g.f2.length c2, .slice A3 g.f3.length c3])
  case first =>
    cases hle : ordAt os k with
    | true =>
      go_wp2_with ((with_reducible refine gate_builtin (b := .append) (xs := #[.tmp 16, .tmp 17]) rfl ?_); at_builtin; refine Kd.R_append kB (w0 := w0) w0.heap.size rfl (.tmp 16) (.tmp 17) 22 5 (.int .u8 0) 1 rfl Tryd.underlying22 info5 rfl (by decide) (by omega) vo out (1 : Int) [.int .u8 1] (fun _ => True) (fun _ => False) rfl rfl ?aP ?aK ?aF ?aO ?aB ?aS ?aL ?_; (case aP => rfl); (case aK => exact fun _ h => h.elim); (case aF => exact fun _ _ => trivial); (case aO => exact Kd.R_mono G2.out.P.r (fun _ _ => trivial)); (case aB => exact G2.out.P.K); (case aS => exact G2.out.P.K.size); (case aL => omega); intro v3 w3 ho3 hb3 hg3 hat3; obtain ⟨g1, g2, g3, g4⟩ := G2.out.P.grown ho3 hg3 hat3; obtain ⟨A5, c5, e5⟩ := Kd.R_slice ho3; subst e5; have hs0 : w3.cell? ⟨gp, 0, none⟩ = some vo := (blk_cell g1 0).trans rfl; have hf0 := blk_frozen g1 0; have M3 := Aside0.mk (show Mv w2 w3 gp vo (.slice A5 (out ++ [(1 : Int)]).length c5) from ⟨hg3.size, fun j hj _ hr => hg3.block j hj hr, hat3⟩); (rw [show (out ++ [(1 : Int)]).length = out.length + 1 from by simp] at g2 M3 ⊢); have G3 := Aside0.mk (And.intro g1 (And.intro g2 g3)); clear g1 g2 g3 g4 ho3 hb3 hg3 hat3)
      have hP4 := Pr.set (i := 0) (u := .slice A5 (out.length + 1) c5) (k' := k + 1) G3.out.1 G3.out.2.1 G2.out.P.o G2.out.P.h G3.out.2.2 (by simp [cfP])
      have hM4 := M3.out.trans (Mv.set (W := w3) (gp := gp) (vo' := .slice A5 (out.length + 1) c5) 0 (.slice A5 (out.length + 1) c5) rfl)
      go_meet
      exact ⟨by rw [hle], _, G2.out.step (by rw [bitB, hle]; exact hP4) hM4⟩
    | false =>
      go_wp2_with ((with_reducible refine gate_builtin (b := .append) (xs := #[.tmp 25, .tmp 26]) rfl ?_); at_builtin; refine Kd.R_append kB (w0 := w0) w0.heap.size rfl (.tmp 25) (.tmp 26) 22 5 (.int .u8 0) 1 rfl Tryd.underlying22 info5 rfl (by decide) (by omega) vo out (0 : Int) [.int .u8 0] (fun _ => True) (fun _ => False) rfl rfl ?aP ?aK ?aF ?aO ?aB ?aS ?aL ?_; (case aP => rfl); (case aK => exact fun _ h => h.elim); (case aF => exact fun _ _ => trivial); (case aO => exact Kd.R_mono G2.out.P.r (fun _ _ => trivial)); (case aB => exact G2.out.P.K); (case aS => exact G2.out.P.K.size); (case aL => omega); intro v3 w3 ho3 hb3 hg3 hat3; obtain ⟨g1, g2, g3, g4⟩ := G2.out.P.grown ho3 hg3 hat3; obtain ⟨A5, c5, e5⟩ := Kd.R_slice ho3; subst e5; have hs0 : w3.cell? ⟨gp, 0, none⟩ = some vo := (blk_cell g1 0).trans rfl; have hf0 := blk_frozen g1 0; have M3 := Aside0.mk (show Mv w2 w3 gp vo (.slice A5 (out ++ [(0 : Int)]).length c5) from ⟨hg3.size, fun j hj _ hr => hg3.block j hj hr, hat3⟩); (rw [show (out ++ [(0 : Int)]).length = out.length + 1 from by simp] at g2 M3 ⊢); have G3 := Aside0.mk (And.intro g1 (And.intro g2 g3)); clear g1 g2 g3 g4 ho3 hb3 hg3 hat3)
      have hP4 := Pr.set (i := 0) (u := .slice A5 (out.length + 1) c5) (k' := k + 1) G3.out.1 G3.out.2.1 G2.out.P.o G2.out.P.h G3.out.2.2 (by simp [cfP])
      have hM4 := M3.out.trans (Mv.set (W := w3) (gp := gp) (vo' := .slice A5 (out.length + 1) c5) 0 (.slice A5 (out.length + 1) c5) rfl)
      go_meet
      exact ⟨by rw [hle], _, G2.out.step (by rw [bitB, hle]; exact hP4) hM4⟩
  case rest =>
    obtain ⟨rfl, v1, hG⟩ := hcut
    have G3 := Aside0.mk hG
    obtain ⟨le, hle⟩ : ∃ y, y = ordAt os k := ⟨_, rfl⟩
    rw [← hle] at G3 HE ⊢
    clear hG G2 hs0 hle
    have z0_ : wc.cell? ⟨gb, 0, none⟩ = some (.int .i64 g.f0) := (blk_cell G3.out.b 0).trans rfl
    have z1_ : wc.cell? ⟨gb, 1, none⟩ = some (.slice A1 g.f1.length c1) := (blk_cell G3.out.b 1).trans rfl
    have z2_ : wc.cell? ⟨gb, 2, none⟩ = some (.slice A2 g.f2.length c2) := (blk_cell G3.out.b 2).trans rfl
    have z3_ : wc.cell? ⟨gb, 3, none⟩ = some (.slice A3 g.f3.length c3) := (blk_cell G3.out.b 3).trans rfl
    go_wp2_with fail
    refine (word_calls w0 wc gp O co os (k + 1) v1 (out ++ bitB le) g.f0 le G3.out.P (by simp only [List.length_append, P32_len, bitB, List.length_singleton]; omega)).mono ?_
    rintro e w4 ⟨rfl, v4, hp4, hm4⟩
    have G4 := Aside0.mk (G3.out.step hp4 hm4)
    clear z0_ z1_ z2_ z3_ G3 hp4 hm4
    have z0_ : w4.cell? ⟨gb, 0, none⟩ = some (.int .i64 g.f0) := (blk_cell G4.out.b 0).trans rfl
    have z1_ : w4.cell? ⟨gb, 1, none⟩ = some (.slice A1 g.f1.length c1) := (blk_cell G4.out.b 1).trans rfl
    have z2_ : w4.cell? ⟨gb, 2, none⟩ = some (.slice A2 g.f2.length c2) := (blk_cell G4.out.b 2).trans rfl
    have z3_ : w4.cell? ⟨gb, 3, none⟩ = some (.slice A3 g.f3.length c3) := (blk_cell G4.out.b 3).trans rfl
    by_cases k1 : g.f0 = 1
    · have k1' : (g.f0 == 1) = true := by rw [k1]; rfl
      rw [if_pos k1] at HE
      rw [if_pos (.inl k1)] at HN
      by_cases e1 : g.f1.length = 0
      · rw [if_pos e1] at HE
        go_wp2_with fail
        obtain ⟨gq, hgq⟩ : ∃ y, y = w4.heap.size := ⟨_, rfl⟩
        obtain ⟨wl, hwl⟩ : ∃ y, y = w4.alloc (.cells #[.int .u64 nanP.f0, .int .u64 nanP.f1] 82) := ⟨_, rfl⟩
        have hwl' : w4.alloc (.cells #[.int .u64 9221120237041090560, .int .u64 9221120237041090560] 82) = wl := hwl.symm
        rw [hwl', ← hgq]
        have hbl : Below w4.heap.size w4 wl := by rw [hwl]; exact below_alloc (Below.refl _ _) _
        have kq : wl.heap[gq]? = some (.cells #[.int .u64 nanP.f0, .int .u64 nanP.f1] 82 (0, 0)) := by rw [hwl, hgq]; exact World.alloc_heap_new _ _
        have hqp : gq ≠ gp := by have := blk_lt G4.out.P.c; omega
        have G5 := Aside0.mk (G4.out.below hbl)
        clear hbl hwl hwl' hgq G4
        refine (points_calls w0 wl gp O co os (k + 1) v4 ((out ++ bitB le) ++ P32 (u32 g.f0) le) (some ⟨gq, 0, none⟩) 1 [nanP] le G5.out.P (fun W' v' _ hm => lit_pt (hm.keep kq hqp (Kd.R_ne G5.out.P.r kq (by decide)))) (by simp only [List.length_append, P32_len, bitB, List.length_singleton]; omega)).mono ?_
        rintro e w5 ⟨rfl, v5, hp5, hm5⟩
        have G6 := Aside0.mk (G5.out.step hp5 hm5)
        clear z0_ z1_ z2_ z3_ G5 hp5 hm5 kq
        go_wp2_with fail
        refine bodyPost_ret (results_none rfl _ _ _) rfl ?_
        exact ⟨rfl, v5, by rw [HN.out, HE.out]; have h9 := G6.out.P; simp only [List.append_assoc] at h9; exact h9, G6.out.M⟩
      · rw [if_neg e1] at HE
        have e1' : ¬ ((g.f1.length : Int) = 0) := by omega
        have e1b : ((g.f1.length : Int) == 0) = false := beq_eq_false_iff_ne.2 e1'
        go_wp2_with fail
        refine (points_calls w0 w4 gp O co os (k + 1) v4 ((out ++ bitB le) ++ P32 (u32 g.f0) le) A1 c1 g.f1 le G4.out.P (fun W' _ hb _ => Kd.C_below H1.out hb) (by simp only [List.length_append, P32_len, bitB, List.length_singleton]; omega)).mono ?_
        rintro e w5 ⟨rfl, v5, hp5, hm5⟩
        have G5 := Aside0.mk (G4.out.step hp5 hm5)
        clear z0_ z1_ z2_ z3_ G4 hp5 hm5
        go_wp2_with fail
        refine bodyPost_end (results_none rfl _ _ _) rfl ?_
        exact ⟨rfl, v5, by rw [HN.out, HE.out]; have h9 := G5.out.P; simp only [List.append_assoc] at h9; exact h9, G5.out.M⟩
    have k1' : (g.f0 == 1) = false := beq_eq_false_iff_ne.2 k1
    rw [if_neg k1] at HE
    by_cases k2 : g.f0 = 2
    · have k2' : (g.f0 == 2) = true := by rw [k2]; rfl
      rw [if_pos k2] at HE
      rw [if_pos (.inr (.inl k2))] at HN
      go_wp2_with fail
      refine (word_calls w0 w4 gp O co os (k + 1) v4 ((out ++ bitB le) ++ P32 (u32 g.f0) le) (g.f1.length : Int) le G4.out.P (by simp only [List.length_append, P32_len, bitB, List.length_singleton]; omega)).mono ?_
      rintro e w5 ⟨rfl, v5, hp5, hm5⟩
      have G5 := Aside0.mk (G4.out.step hp5 hm5)
      clear z0_ z1_ z2_ z3_ G4 hp5 hm5
      have z0_ : w5.cell? ⟨gb, 0, none⟩ = some (.int .i64 g.f0) := (blk_cell G5.out.b 0).trans rfl
      have z1_ : w5.cell? ⟨gb, 1, none⟩ = some (.slice A1 g.f1.length c1) := (blk_cell G5.out.b 1).trans rfl
      have z2_ : w5.cell? ⟨gb, 2, none⟩ = some (.slice A2 g.f2.length c2) := (blk_cell G5.out.b 2).trans rfl
      have z3_ : w5.cell? ⟨gb, 3, none⟩ = some (.slice A3 g.f3.length c3) := (blk_cell G5.out.b 3).trans rfl
      go_wp2_with fail
      refine (points_calls w0 w5 gp O co os (k + 1) v5 (((out ++ bitB le) ++ P32 (u32 g.f0) le) ++ P32 (u32 g.f1.length) le) A1 c1 g.f1 le G5.out.P (fun W' _ hb _ => Kd.C_below H1.out hb) (by simp only [List.length_append, P32_len, bitB, List.length_singleton]; omega)).mono ?_
      rintro e w6 ⟨rfl, v6, hp6, hm6⟩
      have G6 := Aside0.mk (G5.out.step hp6 hm6)
      clear z0_ z1_ z2_ z3_ G5 hp6 hm6
      go_wp2_with fail
      refine bodyPost_end (results_none rfl _ _ _) rfl ?_
      exact ⟨rfl, v6, by rw [HN.out, HE.out]; have h9 := G6.out.P; simp only [List.append_assoc] at h9; exact h9, G6.out.M⟩
    have k2' : (g.f0 == 2) = false := beq_eq_false_iff_ne.2 k2
    rw [if_neg k2] at HE
    by_cases k3 : g.f0 = 3
    · have k3' : (g.f0 == 3) = true := by rw [k3]; rfl
      rw [if_pos k3] at HE
      rw [if_pos (.inr (.inr k3))] at HN
      go_wp2_with fail
      refine (word_calls w0 w4 gp O co os (k + 1) v4 ((out ++ bitB le) ++ P32 (u32 g.f0) le) (g.f2.length : Int) le G4.out.P (by simp only [List.length_append, P32_len, bitB, List.length_singleton]; omega)).mono ?_
      rintro e w5 ⟨rfl, v5, hp5, hm5⟩
      have G5 := Aside0.mk (G4.out.step hp5 hm5)
      clear z0_ z1_ z2_ z3_ G4 hp5 hm5
      have z0_ : w5.cell? ⟨gb, 0, none⟩ = some (.int .i64 g.f0) := (blk_cell G5.out.b 0).trans rfl
      have z1_ : w5.cell? ⟨gb, 1, none⟩ = some (.slice A1 g.f1.length c1) := (blk_cell G5.out.b 1).trans rfl
      have z2_ : w5.cell? ⟨gb, 2, none⟩ = some (.slice A2 g.f2.length c2) := (blk_cell G5.out.b 2).trans rfl
      have z3_ : w5.cell? ⟨gb, 3, none⟩ = some (.slice A3 g.f3.length c3) := (blk_cell G5.out.b 3).trans rfl
      go_wp2_with fail
      obtain ⟨o5, ho5⟩ : ∃ y, y = ((out ++ bitB le) ++ P32 (u32 g.f0) le) ++ P32 (IntKind.u32.wrap (g.f2.length : Int)) le := ⟨_, rfl⟩
      have ho5l : o5.length = out.length + 9 := by rw [ho5]; simp only [List.length_append, P32_len, bitB, List.length_singleton]
      have HO5 := Aside0.mk ho5
      rw [← ho5] at G5
      have HO5L := Aside0.mk ho5l
      clear z0_ z1_ z2_ z3_ ho5 ho5l
      go_loopg [6, 94] g.f2.length (fun kq x6 ii wr => ∃ (i : Nat) (vi : Value), ii = .int .i64 (i : Int) ∧ i + kq = g.f2.length ∧ Aside0 (Gs 103 cfP w0 W wr gp O co os (k + 1) vo vi (o5 ++ ringsB le (g.f2.take i)) gb #[.int .i64 g.f0, .slice A1 g.f1.length c1, .slice A2 g.f2.length c2, .slice A3 g.f3.length c3]))
      case atStart => exact ⟨0, v5, rfl, by omega, ⟨by simpa [ringsB] using G5.out⟩⟩
      case round =>
        clear G5
        obtain ⟨i, vi, rfl, hi, G5⟩ := hrel
        cases gk with
        | zero =>
          have hlt : ¬ ((i : Int) < (g.f2.length : Int)) := by omega
          obtain rfl : i = g.f2.length := by omega
          go_wp2_with fail
          refine bodyPost_end (results_none rfl _ _ _) rfl ?_
          exact ⟨rfl, vi, by rw [HN.out, HE.out]; have h9 := G5.out.P; rw [List.take_length, HO5.out] at h9; simp only [List.append_assoc] at h9; exact h9, G5.out.M⟩
        | succ kq =>
          have hlt : (i : Int) < (g.f2.length : Int) := by omega
          have hil : i < g.f2.length := by omega
          obtain ⟨ad, A4, c4, e4, p0, hc4, hr4⟩ := at_L2 H2.out (i : Int) (by omega) (by omega)
          have hrd : rd_L2 g.f2 (i : Int) = g.f2[i] := by simp [rd_L2, List.getD_eq_getElem?_getD, List.getElem?_eq_getElem hil]
          rw [hrd, Int.toNat_natCast] at p0
          rw [hrd] at hc4 hr4
          subst e4
          have p0' := cell_below G5.out.P.K p0
          have HTK := Aside0.mk (List.take_succ_eq_append_getElem hil)
          have hfl : (g.f2.take i).flatten.length + g.f2[i].length ≤ g.f2.flatten.length := by
            have h9 := congrArg (fun l => l.flatten.length) (List.take_append_drop i g.f2)
            simp only [List.flatten_append, List.length_append] at h9
            rw [List.drop_eq_getElem_cons hil, List.flatten_cons, List.length_append] at h9
            omega
          have hrl := ringsB_len le (g.f2.take i)
          have htl : (g.f2.take i).length = i := by rw [List.length_take]; omega
          obtain ⟨r, hr⟩ : ∃ r, r = g.f2[i] := ⟨_, rfl⟩
          rw [← hr] at p0' hc4 hr4 HTK hfl
          have HR4 := Aside0.mk hr4
          have HLN := Aside0.mk (show (o5 ++ ringsB le (g.f2.take i)).length + 4 + 16 * r.length ≤ 70368744177664 by rw [List.length_append, HO5L.out]; omega)
          clear hrd p0 hr hr4 hrl htl hfl
          go_wp2_with fail
          refine (word_calls w0 wr gp O co os (k + 1) vi (o5 ++ ringsB le (g.f2.take i)) (r.length : Int) le G5.out.P (by have := HLN.out; omega)).mono ?_
          rintro e w6 ⟨rfl, v6, hp6, hm6⟩
          have G6 := Aside0.mk (G5.out.step hp6 hm6)
          clear G5 hp6 hm6
          go_wp2_with fail
          refine (points_calls w0 w6 gp O co os (k + 1) v6 ((o5 ++ ringsB le (g.f2.take i)) ++ P32 (u32 r.length) le) A4 c4 r le G6.out.P (fun W' _ hb _ => Kd.C_below HR4.out hb) (by rw [List.length_append, P32_len]; exact HLN.out)).mono ?_
          rintro e w7 ⟨rfl, v7, hp7, hm7⟩
          have G7 := Aside0.mk (G6.out.step hp7 hm7)
          clear G6 hp7 hm7
          go_wp2_with fail
          go_roundg kq
          case measure => omega
          case rel => exact ⟨i + 1, v7, by go_num, by omega, ⟨by have h9 := G7.out; rw [HTK.out, ringsB_snoc]; simp only [List.append_assoc] at h9 ⊢; exact h9⟩⟩
    have k3' : (g.f0 == 3) = false := beq_eq_false_iff_ne.2 k3
    rw [if_neg k3] at HE
    rw [if_neg (by rintro (h | h | h) <;> contradiction)] at HN
    go_wp2_with fail
    refine (word_calls w0 w4 gp O co os (k + 1) v4 ((out ++ bitB le) ++ P32 (u32 g.f0) le) (g.f3.length : Int) le G4.out.P (by simp only [List.length_append, P32_len, bitB, List.length_singleton]; omega)).mono ?_
    rintro e w5 ⟨rfl, v5, hp5, hm5⟩
    have G5 := Aside0.mk (G4.out.step hp5 hm5)
    clear z0_ z1_ z2_ z3_ G4 hp5 hm5
    have z0_ : w5.cell? ⟨gb, 0, none⟩ = some (.int .i64 g.f0) := (blk_cell G5.out.b 0).trans rfl
    have z1_ : w5.cell? ⟨gb, 1, none⟩ = some (.slice A1 g.f1.length c1) := (blk_cell G5.out.b 1).trans rfl
    have z2_ : w5.cell? ⟨gb, 2, none⟩ = some (.slice A2 g.f2.length c2) := (blk_cell G5.out.b 2).trans rfl
    have z3_ : w5.cell? ⟨gb, 3, none⟩ = some (.slice A3 g.f3.length c3) := (blk_cell G5.out.b 3).trans rfl
    go_wp2_with fail
    obtain ⟨o5, ho5⟩ : ∃ y, y = ((out ++ bitB le) ++ P32 (u32 g.f0) le) ++ P32 (IntKind.u32.wrap (g.f3.length : Int)) le := ⟨_, rfl⟩
    have ho5l : o5.length = out.length + 9 := by rw [ho5]; simp only [List.length_append, P32_len, bitB, List.length_singleton]
    have HO5 := Aside0.mk ho5
    rw [← ho5] at G5
    have HO5L := Aside0.mk ho5l
    clear z0_ z1_ z2_ z3_ ho5 ho5l
    have hb3 : g.f3.length ≤ 70368744177664 := by have := bulks_len g.f3; omega
    go_loopg [8, 46] g.f3.length (fun kq x8 ii wr => ∃ (i : Nat) (vi : Value), ii = .int .i64 (i : Int) ∧ i + kq = g.f3.length ∧ Aside0 (Gs 103 cfP w0 W wr gp O co os (k + 1 + cntL (g.f3.take i)) vo vi (o5 ++ partsB os (g.f3.take i) (k + 1)) gb #[.int .i64 g.f0, .slice A1 g.f1.length c1, .slice A2 g.f2.length c2, .slice A3 g.f3.length c3]))
    case atStart => exact ⟨0, v5, rfl, by omega, ⟨by simpa [partsB, cntL] using G5.out⟩⟩
    case round =>
      clear G5
      obtain ⟨i, vi, rfl, hi, G5⟩ := hrel
      cases gk with
      | zero =>
        have hlt : ¬ ((i : Int) < (g.f3.length : Int)) := by omega
        obtain rfl : i = g.f3.length := by omega
        go_wp2_with fail
        refine bodyPost_end (results_none rfl _ _ _) rfl ?_
        exact ⟨rfl, vi, by rw [HN.out, HE.out, ← Nat.add_assoc]; have h9 := G5.out.P; rw [List.take_length, HO5.out] at h9; simp only [List.append_assoc] at h9; exact h9, G5.out.M⟩
      | succ kq =>
        have hlt : (i : Int) < (g.f3.length : Int) := by omega
        have hil : i < g.f3.length := by omega
        obtain ⟨a3, B1, d1, B2, d2, B3, d3, ea, p0, p1, p2, p3, m1, q1, m2, q2, m3, q3⟩ := at_Ge H3.out i (by omega) (by omega)
        subst ea
        rw [rd_Ge_at _ _ hil] at p0 p1 p2 p3 q1 q2 q3 m1 m2 m3
        rw [Int.toNat_natCast] at p0 p1 p2 p3
        have HG := Aside0.mk (show IsG w0 (.agg #[.int .i64 (g.f3[i]).f0, .slice B1 (g.f3[i]).f1.length d1, .slice B2 (g.f3[i]).f2.length d2, .slice B3 (g.f3[i]).f3.length d3]) g.f3[i] from ⟨B1, d1, B2, d2, B3, d3, rfl, m1, q1, m2, q2, m3, q3⟩)
        have p0' := cell_below G5.out.P.K p0
        have p1' := cell_below G5.out.P.K p1
        have p2' := cell_below G5.out.P.K p2
        have p3' := cell_below G5.out.P.K p3
        have HTK := Aside0.mk (List.take_succ_eq_append_getElem hil)
        have hbt : bulks (g.f3.take i) + (g.f3[i]).bulk ≤ bulks g.f3 := by
          have h9 := bulks_take g.f3 (i + 1)
          rw [HTK.out, bulks_app] at h9
          simp only [bulks] at h9
          omega
        obtain ⟨c, hc⟩ : ∃ c, c = g.f3[i] := ⟨_, rfl⟩
        rw [← hc] at p0' p1' p2' p3' HG HTK hbt
        have hpl := partsB_le os (g.f3.take i) (k + 1)
        have HLN := Aside0.mk (show (o5 ++ partsB os (g.f3.take i) (k + 1)).length + 32 * c.bulk ≤ 70368744177664 ∧ k + 1 + cntL (g.f3.take i) + c.bulk ≤ 1152921504606846976 ∧ c.bulk ≤ n from by
          rw [List.length_append, HO5L.out]
          omega)
        clear hc p0 p1 p2 p3 q1 q2 q3 m1 m2 m3 hbt hpl
        go_wp2_with fail
        have G6 := Aside0.mk (G5.out.below (below_alloc (Below.refl _ _) (.cells #[.int .i64 c.f0, .slice B1 c.f1.length d1, .slice B2 c.f2.length d2, .slice B3 c.f3.length d3] 28)))
        clear G5 p0' p1' p2' p3'
        generalize wr.alloc (.cells #[.int .i64 c.f0, .slice B1 c.f1.length d1, .slice B2 c.f2.length d2, .slice B3 c.f3.length d3] 28) = wl at G6 ⊢
        refine (IH.out c w0 wl gp O co os (k + 1 + cntL (g.f3.take i)) vi (o5 ++ partsB os (g.f3.take i) (k + 1)) _ HLN.out.2.2 G6.out.P HG.out HLN.out.1 HLN.out.2.1 hos).mono ?_
        rintro e w7 ⟨rfl, v7, hp7, hm7⟩
        have G7 := Aside0.mk (G6.out.step hp7 hm7)
        clear G6 hp7 hm7
        go_wp2_with fail
        go_roundg kq
        case measure => omega
        case rel => exact ⟨i + 1, v7, by go_num, by omega, ⟨by have h9 := G7.out; rw [HTK.out, partsB_snoc, cntL_snoc]; simp only [List.append_assoc, Nat.add_assoc] at h9 ⊢; exact h9⟩⟩
end Go.Proofs.YtiiolhnpnlmkjaaDoor.Tree
