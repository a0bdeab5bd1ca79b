/- Texts of this claim laid one behind the other (TPGeom; TRef; TItems; TSmall; TRShape; TRCheck; TPrSem; TPP): what each proves stands at its own names; the last one is the claim's. No conditions but those told. -/
import Derived.Test.YtiiolhnpnlmkjaaZWbf
import Derived.StillTailTactics
import Derived.RangeFuncRecord
import Derived.Laws.BitsAllLaws
namespace Go.Proofs.Ytiiolhnpnlmkjaa.Tree
open Go.RowKit Go.Proofs.Ytiiolhnpnlmkjaa.PWkbPrints Go.Proofs.YtiiolhnpnlmkjaaW.PrintWords Go.Proofs.YtiiolhnpnlmkjaaW.PrintLast Go.Proofs.YtiiolhnpnlmkjaaW.PrintMore
attribute [local go_sem] Oper.semAt_some max2_int max_two min2_int min_two
set_option maxRecDepth 100000 in
set_option maxHeartbeats 16000000 in
theorem pgeom_calls (n : Nat) : ∀ (g : Ge) (w0 W : World) (gp : Nat) (O : Option Addr) (co : Nat) (os : List Bool) (k : Nat) (vo : Value) (out : List Int) (v : Value), g.bulk ≤ n → Pr 71 cfP w0 W gp O co os k vo out → IsG w0 v g → out.length + 32 * g.bulk ≤ 70368744177664 → k + g.bulk ≤ 1152921504606846976 → os.length ≤ 1152921504606846976 →
    Calls Try.prog 22 #[.pointer (some ⟨gp, 0, none⟩), v] W fun e W' => e = .returned (.tuple #[]) ∧ ∃ vo', Pr 71 cfP w0 W' gp O co os (k + cntG g) vo' (out ++ geoB os g k) ∧ Mv W W' gp vo vo' := by
  induction n with
  | zero => intro g w0 W gp O co os k vo out v h; have := g.bulk_eq; omega
  | succ n ih =>
  intro g w0 W gp O co os k vo out v hbk hP hv hl hk hos
  obtain ⟨A1, c1, A2, c2, A3, c3, rfl, l1, h1, l2, h2, l3, h3⟩ := hv
  have hbq := g.bulk_eq
  have HE := Aside0.mk (geoB_eq os g k)
  have HN := Aside0.mk (cntG_eq g)
  have H1 := Aside0.mk h1
  have H2 := Aside0.mk h2
  have H3 := Aside0.mk h3
  have IH := Aside0.mk ih
  have HP := Aside0.mk hP
  clear h1 h2 h3 ih hP
  go_enter Try.func22, Try.ntmps22
  go_wp2_with fail
  obtain ⟨gb, hgb⟩ : ∃ y, y = W.heap.size := ⟨_, rfl⟩
  obtain ⟨W1, hW1⟩ : ∃ y, y = W.alloc (.cells #[.int .i64 g.f0, .slice A1 g.f1.length c1, .slice A2 g.f2.length c2, .slice A3 g.f3.length c3] 28) := ⟨_, rfl⟩
  rw [← hW1, ← hgb]
  have hb1 : Below W.heap.size W W1 := by rw [hW1]; exact below_alloc (Below.refl _ _) _
  have G1 := Aside0.mk (show Gs 71 cfP w0 W W1 gp O co os k vo vo out gb #[.int .i64 g.f0, .slice A1 g.f1.length c1, .slice A2 g.f2.length c2, .slice A3 g.f3.length c3] from ⟨HP.out.below hb1, Mv.below gp vo hb1, by rw [hW1, hgb]; exact World.alloc_heap_new _ _, by have := blk_lt HP.out.c; omega⟩)
  clear hb1 hW1 hgb HP
  refine (order_calls w0 W1 gp O co os k vo out G1.out.P (by omega) hos).mono ?_
  rintro e w2 ⟨rfl, hp2, hm2⟩
  have G2 := Aside0.mk (G1.out.step hp2 hm2)
  have hol : out.length ≤ 70368744177664 := by omega
  clear G1 hp2 hm2
  have hs0 : w2.cell? ⟨gp, 0, none⟩ = some vo := (blk_cell G2.out.P.c 0).trans rfl
  go_upto_if 11 with fail
  go_cut [4] from 9 to 29 (fun c wx => c = .bool (ordAt os k) ∧ ∃ v1, Gs 71 cfP w0 W wx gp O co os (k + 1) vo v1 (out ++ bitB (ordAt os k)) gb #[.int .i64 g.f0, .slice A1 g.f1.length c1, .slice A2 g.f2.length c2, .slice A3 g.f3.length c3])
  case first =>
    cases hle : ordAt os k with
    | true =>
      go_wp2_with ((with_reducible refine gate_builtin (b := .append) (xs := #[.tmp 16, .tmp 17]) rfl ?_); at_builtin; refine Kd.R_append kB (w0 := w0) w0.heap.size rfl (.tmp 16) (.tmp 17) 23 5 (.int .u8 0) 1 rfl Try.underlying23 info5 rfl (by decide) (by omega) vo out (1 : Int) [.int .u8 1] (fun _ => True) (fun _ => False) rfl rfl ?aP ?aK ?aF ?aO ?aB ?aS ?aL ?_; (case aP => rfl); (case aK => exact fun _ h => h.elim); (case aF => exact fun _ _ => trivial); (case aO => exact Kd.R_mono G2.out.P.r (fun _ _ => trivial)); (case aB => exact G2.out.P.K); (case aS => exact G2.out.P.K.size); (case aL => omega); intro v3 w3 ho3 hb3 hg3 hat3; obtain ⟨g1, g2, g3, g4⟩ := G2.out.P.grown ho3 hg3 hat3; obtain ⟨A5, c5, e5⟩ := Kd.R_slice ho3; subst e5; have hs0 : w3.cell? ⟨gp, 0, none⟩ = some vo := (blk_cell g1 0).trans rfl; have hf0 := blk_frozen g1 0; have M3 := Aside0.mk (show Mv w2 w3 gp vo (.slice A5 (out ++ [(1 : Int)]).length c5) from ⟨hg3.size, fun j hj _ hr => hg3.block j hj hr, hat3⟩); (rw [show (out ++ [(1 : Int)]).length = out.length + 1 from by simp] at g2 M3 ⊢); have G3 := Aside0.mk (And.intro g1 (And.intro g2 g3)); clear g1 g2 g3 g4 ho3 hb3 hg3 hat3)
      have hP4 := Pr.set (i := 0) (u := .slice A5 (out.length + 1) c5) (k' := k + 1) G3.out.1 G3.out.2.1 G2.out.P.o G2.out.P.h G3.out.2.2 (by simp [cfP])
      have hM4 := M3.out.trans (Mv.set (W := w3) (gp := gp) (vo' := .slice A5 (out.length + 1) c5) 0 (.slice A5 (out.length + 1) c5) rfl)
      go_meet
      exact ⟨by rw [hle], _, G2.out.step (by rw [bitB, hle]; exact hP4) hM4⟩
    | false =>
      go_wp2_with ((with_reducible refine gate_builtin (b := .append) (xs := #[.tmp 25, .tmp 26]) rfl ?_); at_builtin; refine Kd.R_append kB (w0 := w0) w0.heap.size rfl (.tmp 25) (.tmp 26) 23 5 (.int .u8 0) 1 rfl Try.underlying23 info5 rfl (by decide) (by omega) vo out (0 : Int) [.int .u8 0] (fun _ => True) (fun _ => False) rfl rfl ?aP ?aK ?aF ?aO ?aB ?aS ?aL ?_; (case aP => rfl); (case aK => exact fun _ h => h.elim); (case aF => exact fun _ _ => trivial); (case aO => exact Kd.R_mono G2.out.P.r (fun _ _ => trivial)); (case aB => exact G2.out.P.K); (case aS => exact G2.out.P.K.size); (case aL => omega); intro v3 w3 ho3 hb3 hg3 hat3; obtain ⟨g1, g2, g3, g4⟩ := G2.out.P.grown ho3 hg3 hat3; obtain ⟨A5, c5, e5⟩ := Kd.R_slice ho3; subst e5; have hs0 : w3.cell? ⟨gp, 0, none⟩ = some vo := (blk_cell g1 0).trans rfl; have hf0 := blk_frozen g1 0; have M3 := Aside0.mk (show Mv w2 w3 gp vo (.slice A5 (out ++ [(0 : Int)]).length c5) from ⟨hg3.size, fun j hj _ hr => hg3.block j hj hr, hat3⟩); (rw [show (out ++ [(0 : Int)]).length = out.length + 1 from by simp] at g2 M3 ⊢); have G3 := Aside0.mk (And.intro g1 (And.intro g2 g3)); clear g1 g2 g3 g4 ho3 hb3 hg3 hat3)
      have hP4 := Pr.set (i := 0) (u := .slice A5 (out.length + 1) c5) (k' := k + 1) G3.out.1 G3.out.2.1 G2.out.P.o G2.out.P.h G3.out.2.2 (by simp [cfP])
      have hM4 := M3.out.trans (Mv.set (W := w3) (gp := gp) (vo' := .slice A5 (out.length + 1) c5) 0 (.slice A5 (out.length + 1) c5) rfl)
      go_meet
      exact ⟨by rw [hle], _, G2.out.step (by rw [bitB, hle]; exact hP4) hM4⟩
  case rest =>
    obtain ⟨rfl, v1, hG⟩ := hcut
    have G3 := Aside0.mk hG
    obtain ⟨le, hle⟩ : ∃ y, y = ordAt os k := ⟨_, rfl⟩
    rw [← hle] at G3 HE ⊢
    clear hG G2 hs0 hle
    have z0_ : wc.cell? ⟨gb, 0, none⟩ = some (.int .i64 g.f0) := (blk_cell G3.out.b 0).trans rfl
    have z1_ : wc.cell? ⟨gb, 1, none⟩ = some (.slice A1 g.f1.length c1) := (blk_cell G3.out.b 1).trans rfl
    have z2_ : wc.cell? ⟨gb, 2, none⟩ = some (.slice A2 g.f2.length c2) := (blk_cell G3.out.b 2).trans rfl
    have z3_ : wc.cell? ⟨gb, 3, none⟩ = some (.slice A3 g.f3.length c3) := (blk_cell G3.out.b 3).trans rfl
    go_wp2_with fail
    refine (word_calls w0 wc gp O co os (k + 1) v1 (out ++ bitB le) g.f0 le G3.out.P (by simp only [List.length_append, P32_len, bitB, List.length_singleton]; omega)).mono ?_
    rintro e w4 ⟨rfl, v4, hp4, hm4⟩
    have G4 := Aside0.mk (G3.out.step hp4 hm4)
    clear z0_ z1_ z2_ z3_ G3 hp4 hm4
    have z0_ : w4.cell? ⟨gb, 0, none⟩ = some (.int .i64 g.f0) := (blk_cell G4.out.b 0).trans rfl
    have z1_ : w4.cell? ⟨gb, 1, none⟩ = some (.slice A1 g.f1.length c1) := (blk_cell G4.out.b 1).trans rfl
    have z2_ : w4.cell? ⟨gb, 2, none⟩ = some (.slice A2 g.f2.length c2) := (blk_cell G4.out.b 2).trans rfl
    have z3_ : w4.cell? ⟨gb, 3, none⟩ = some (.slice A3 g.f3.length c3) := (blk_cell G4.out.b 3).trans rfl
    by_cases k1 : g.f0 = 1
    · have k1' : (g.f0 == 1) = true := by rw [k1]; rfl
      rw [if_pos k1] at HE
      rw [if_pos (.inl k1)] at HN
      by_cases e1 : g.f1.length = 0
      · rw [if_pos e1] at HE
        go_wp2_with fail
        obtain ⟨gq, hgq⟩ : ∃ y, y = w4.heap.size := ⟨_, rfl⟩
        obtain ⟨wl, hwl⟩ : ∃ y, y = w4.alloc (.cells #[.int .u64 nanP.f0, .int .u64 nanP.f1] 65) := ⟨_, rfl⟩
        have hwl' : w4.alloc (.cells #[.int .u64 9221120237041090560, .int .u64 9221120237041090560] 65) = wl := hwl.symm
        rw [hwl', ← hgq]
        have hbl : Below w4.heap.size w4 wl := by rw [hwl]; exact below_alloc (Below.refl _ _) _
        have kq : wl.heap[gq]? = some (.cells #[.int .u64 nanP.f0, .int .u64 nanP.f1] 65 (0, 0)) := by rw [hwl, hgq]; exact World.alloc_heap_new _ _
        have hqp : gq ≠ gp := by have := blk_lt G4.out.P.c; omega
        have G5 := Aside0.mk (G4.out.below hbl)
        clear hbl hwl hwl' hgq G4
        refine (points_calls w0 wl gp O co os (k + 1) v4 ((out ++ bitB le) ++ P32 (u32 g.f0) le) (some ⟨gq, 0, none⟩) 1 [nanP] le G5.out.P (fun W' v' _ hm => lit_pt (hm.keep kq hqp (Kd.R_ne G5.out.P.r kq (by decide)))) (by simp only [List.length_append, P32_len, bitB, List.length_singleton]; omega)).mono ?_
        rintro e w5 ⟨rfl, v5, hp5, hm5⟩
        have G6 := Aside0.mk (G5.out.step hp5 hm5)
        clear z0_ z1_ z2_ z3_ G5 hp5 hm5 kq
        go_wp2_with fail
        refine bodyPost_ret (results_none rfl _ _ _) rfl ?_
        exact ⟨rfl, v5, by rw [HN.out, HE.out]; have h9 := G6.out.P; simp only [List.append_assoc] at h9; exact h9, G6.out.M⟩
      · rw [if_neg e1] at HE
        have e1' : ¬ ((g.f1.length : Int) = 0) := by omega
        have e1b : ((g.f1.length : Int) == 0) = false := beq_eq_false_iff_ne.2 e1'
        go_wp2_with fail
        refine (points_calls w0 w4 gp O co os (k + 1) v4 ((out ++ bitB le) ++ P32 (u32 g.f0) le) A1 c1 g.f1 le G4.out.P (fun W' _ hb _ => Kd.C_below H1.out hb) (by simp only [List.length_append, P32_len, bitB, List.length_singleton]; omega)).mono ?_
        rintro e w5 ⟨rfl, v5, hp5, hm5⟩
        have G5 := Aside0.mk (G4.out.step hp5 hm5)
        clear z0_ z1_ z2_ z3_ G4 hp5 hm5
        go_wp2_with fail
        refine bodyPost_end (results_none rfl _ _ _) rfl ?_
        exact ⟨rfl, v5, by rw [HN.out, HE.out]; have h9 := G5.out.P; simp only [List.append_assoc] at h9; exact h9, G5.out.M⟩
    have k1' : (g.f0 == 1) = false := beq_eq_false_iff_ne.2 k1
    rw [if_neg k1] at HE
    by_cases k2 : g.f0 = 2
    · have k2' : (g.f0 == 2) = true := by rw [k2]; rfl
      rw [if_pos k2] at HE
      rw [if_pos (.inr (.inl k2))] at HN
      go_wp2_with fail
      refine (word_calls w0 w4 gp O co os (k + 1) v4 ((out ++ bitB le) ++ P32 (u32 g.f0) le) (g.f1.length : Int) le G4.out.P (by simp only [List.length_append, P32_len, bitB, List.length_singleton]; omega)).mono ?_
      rintro e w5 ⟨rfl, v5, hp5, hm5⟩
      have G5 := Aside0.mk (G4.out.step hp5 hm5)
      clear z0_ z1_ z2_ z3_ G4 hp5 hm5
      have z0_ : w5.cell? ⟨gb, 0, none⟩ = some (.int .i64 g.f0) := (blk_cell G5.out.b 0).trans rfl
      have z1_ : w5.cell? ⟨gb, 1, none⟩ = some (.slice A1 g.f1.length c1) := (blk_cell G5.out.b 1).trans rfl
      have z2_ : w5.cell? ⟨gb, 2, none⟩ = some (.slice A2 g.f2.length c2) := (blk_cell G5.out.b 2).trans rfl
      have z3_ : w5.cell? ⟨gb, 3, none⟩ = some (.slice A3 g.f3.length c3) := (blk_cell G5.out.b 3).trans rfl
      go_wp2_with fail
      refine (points_calls w0 w5 gp O co os (k + 1) v5 (((out ++ bitB le) ++ P32 (u32 g.f0) le) ++ P32 (u32 g.f1.length) le) A1 c1 g.f1 le G5.out.P (fun W' _ hb _ => Kd.C_below H1.out hb) (by simp only [List.length_append, P32_len, bitB, List.length_singleton]; omega)).mono ?_
      rintro e w6 ⟨rfl, v6, hp6, hm6⟩
      have G6 := Aside0.mk (G5.out.step hp6 hm6)
      clear z0_ z1_ z2_ z3_ G5 hp6 hm6
      go_wp2_with fail
      refine bodyPost_end (results_none rfl _ _ _) rfl ?_
      exact ⟨rfl, v6, by rw [HN.out, HE.out]; have h9 := G6.out.P; simp only [List.append_assoc] at h9; exact h9, G6.out.M⟩
    have k2' : (g.f0 == 2) = false := beq_eq_false_iff_ne.2 k2
    rw [if_neg k2] at HE
    by_cases k3 : g.f0 = 3
    · have k3' : (g.f0 == 3) = true := by rw [k3]; rfl
      rw [if_pos k3] at HE
      rw [if_pos (.inr (.inr k3))] at HN
      go_wp2_with fail
      refine (word_calls w0 w4 gp O co os (k + 1) v4 ((out ++ bitB le) ++ P32 (u32 g.f0) le) (g.f2.length : Int) le G4.out.P (by simp only [List.length_append, P32_len, bitB, List.length_singleton]; omega)).mono ?_
      rintro e w5 ⟨rfl, v5, hp5, hm5⟩
      have G5 := Aside0.mk (G4.out.step hp5 hm5)
      clear z0_ z1_ z2_ z3_ G4 hp5 hm5
      have z0_ : w5.cell? ⟨gb, 0, none⟩ = some (.int .i64 g.f0) := (blk_cell G5.out.b 0).trans rfl
      have z1_ : w5.cell? ⟨gb, 1, none⟩ = some (.slice A1 g.f1.length c1) := (blk_cell G5.out.b 1).trans rfl
      have z2_ : w5.cell? ⟨gb, 2, none⟩ = some (.slice A2 g.f2.length c2) := (blk_cell G5.out.b 2).trans rfl
      have z3_ : w5.cell? ⟨gb, 3, none⟩ = some (.slice A3 g.f3.length c3) := (blk_cell G5.out.b 3).trans rfl
      go_wp2_with fail
      obtain ⟨o5, ho5⟩ : ∃ y, y = ((out ++ bitB le) ++ P32 (u32 g.f0) le) ++ P32 (IntKind.u32.wrap (g.f2.length : Int)) le := ⟨_, rfl⟩
      have ho5l : o5.length = out.length + 9 := by rw [ho5]; simp only [List.length_append, P32_len, bitB, List.length_singleton]
      have HO5 := Aside0.mk ho5
      rw [← ho5] at G5
      have HO5L := Aside0.mk ho5l
      clear z0_ z1_ z2_ z3_ ho5 ho5l
      go_loopg [6, 94] g.f2.length (fun kq x6 ii wr => ∃ (i : Nat) (vi : Value), ii = .int .i64 (i : Int) ∧ i + kq = g.f2.length ∧ Aside0 (Gs 71 cfP w0 W wr gp O co os (k + 1) vo vi (o5 ++ ringsB le (g.f2.take i)) gb #[.int .i64 g.f0, .slice A1 g.f1.length c1, .slice A2 g.f2.length c2, .slice A3 g.f3.length c3]))
      case atStart => exact ⟨0, v5, rfl, by omega, ⟨by simpa [ringsB] using G5.out⟩⟩
      case round =>
        clear G5
        obtain ⟨i, vi, rfl, hi, G5⟩ := hrel
        cases gk with
        | zero =>
          have hlt : ¬ ((i : Int) < (g.f2.length : Int)) := by omega
          obtain rfl : i = g.f2.length := by omega
          go_wp2_with fail
          refine bodyPost_end (results_none rfl _ _ _) rfl ?_
          exact ⟨rfl, vi, by rw [HN.out, HE.out]; have h9 := G5.out.P; rw [List.take_length, HO5.out] at h9; simp only [List.append_assoc] at h9; exact h9, G5.out.M⟩
        | succ kq =>
          have hlt : (i : Int) < (g.f2.length : Int) := by omega
          have hil : i < g.f2.length := by omega
          obtain ⟨ad, A4, c4, e4, p0, hc4, hr4⟩ := at_L2 H2.out (i : Int) (by omega) (by omega)
          have hrd : rd_L2 g.f2 (i : Int) = g.f2[i] := by simp [rd_L2, List.getD_eq_getElem?_getD, List.getElem?_eq_getElem hil]
          rw [hrd, Int.toNat_natCast] at p0
          rw [hrd] at hc4 hr4
          subst e4
          have p0' := cell_below G5.out.P.K p0
          have HTK := Aside0.mk (List.take_succ_eq_append_getElem hil)
          have hfl : (g.f2.take i).flatten.length + g.f2[i].length ≤ g.f2.flatten.length := by
            have h9 := congrArg (fun l => l.flatten.length) (List.take_append_drop i g.f2)
            simp only [List.flatten_append, List.length_append] at h9
            rw [List.drop_eq_getElem_cons hil, List.flatten_cons, List.length_append] at h9
            omega
          have hrl := ringsB_len le (g.f2.take i)
          have htl : (g.f2.take i).length = i := by rw [List.length_take]; omega
          obtain ⟨r, hr⟩ : ∃ r, r = g.f2[i] := ⟨_, rfl⟩
          rw [← hr] at p0' hc4 hr4 HTK hfl
          have HR4 := Aside0.mk hr4
          have HLN := Aside0.mk (show (o5 ++ ringsB le (g.f2.take i)).length + 4 + 16 * r.length ≤ 70368744177664 by rw [List.length_append, HO5L.out]; omega)
          clear hrd p0 hr hr4 hrl htl hfl
          go_wp2_with fail
          refine (word_calls w0 wr gp O co os (k + 1) vi (o5 ++ ringsB le (g.f2.take i)) (r.length : Int) le G5.out.P (by have := HLN.out; omega)).mono ?_
          rintro e w6 ⟨rfl, v6, hp6, hm6⟩
          have G6 := Aside0.mk (G5.out.step hp6 hm6)
          clear G5 hp6 hm6
          go_wp2_with fail
          refine (points_calls w0 w6 gp O co os (k + 1) v6 ((o5 ++ ringsB le (g.f2.take i)) ++ P32 (u32 r.length) le) A4 c4 r le G6.out.P (fun W' _ hb _ => Kd.C_below HR4.out hb) (by rw [List.length_append, P32_len]; exact HLN.out)).mono ?_
          rintro e w7 ⟨rfl, v7, hp7, hm7⟩
          have G7 := Aside0.mk (G6.out.step hp7 hm7)
          clear G6 hp7 hm7
          go_wp2_with fail
          go_roundg kq
          case measure => omega
          case rel => exact ⟨i + 1, v7, by go_num, by omega, ⟨by have h9 := G7.out; rw [HTK.out, ringsB_snoc]; simp only [List.append_assoc] at h9 ⊢; exact h9⟩⟩
    have k3' : (g.f0 == 3) = false := beq_eq_false_iff_ne.2 k3
    rw [if_neg k3] at HE
    rw [if_neg (by rintro (h | h | h) <;> contradiction)] at HN
    go_wp2_with fail
    refine (word_calls w0 w4 gp O co os (k + 1) v4 ((out ++ bitB le) ++ P32 (u32 g.f0) le) (g.f3.length : Int) le G4.out.P (by simp only [List.length_append, P32_len, bitB, List.length_singleton]; omega)).mono ?_
    rintro e w5 ⟨rfl, v5, hp5, hm5⟩
    have G5 := Aside0.mk (G4.out.step hp5 hm5)
    clear z0_ z1_ z2_ z3_ G4 hp5 hm5
    have z0_ : w5.cell? ⟨gb, 0, none⟩ = some (.int .i64 g.f0) := (blk_cell G5.out.b 0).trans rfl
    have z1_ : w5.cell? ⟨gb, 1, none⟩ = some (.slice A1 g.f1.length c1) := (blk_cell G5.out.b 1).trans rfl
    have z2_ : w5.cell? ⟨gb, 2, none⟩ = some (.slice A2 g.f2.length c2) := (blk_cell G5.out.b 2).trans rfl
    have z3_ : w5.cell? ⟨gb, 3, none⟩ = some (.slice A3 g.f3.length c3) := (blk_cell G5.out.b 3).trans rfl
    go_wp2_with fail
    obtain ⟨o5, ho5⟩ : ∃ y, y = ((out ++ bitB le) ++ P32 (u32 g.f0) le) ++ P32 (IntKind.u32.wrap (g.f3.length : Int)) le := ⟨_, rfl⟩
    have ho5l : o5.length = out.length + 9 := by rw [ho5]; simp only [List.length_append, P32_len, bitB, List.length_singleton]
    have HO5 := Aside0.mk ho5
    rw [← ho5] at G5
    have HO5L := Aside0.mk ho5l
    clear z0_ z1_ z2_ z3_ ho5 ho5l
    have hb3 : g.f3.length ≤ 70368744177664 := by have := bulks_len g.f3; omega
    go_loopg [8, 46] g.f3.length (fun kq x8 ii wr => ∃ (i : Nat) (vi : Value), ii = .int .i64 (i : Int) ∧ i + kq = g.f3.length ∧ Aside0 (Gs 71 cfP w0 W wr gp O co os (k + 1 + cntL (g.f3.take i)) vo vi (o5 ++ partsB os (g.f3.take i) (k + 1)) gb #[.int .i64 g.f0, .slice A1 g.f1.length c1, .slice A2 g.f2.length c2, .slice A3 g.f3.length c3]))
    case atStart => exact ⟨0, v5, rfl, by omega, ⟨by simpa [partsB, cntL] using G5.out⟩⟩
    case round =>
      clear G5
      obtain ⟨i, vi, rfl, hi, G5⟩ := hrel
      cases gk with
      | zero =>
        have hlt : ¬ ((i : Int) < (g.f3.length : Int)) := by omega
        obtain rfl : i = g.f3.length := by omega
        go_wp2_with fail
        refine bodyPost_end (results_none rfl _ _ _) rfl ?_
        exact ⟨rfl, vi, by rw [HN.out, HE.out, ← Nat.add_assoc]; have h9 := G5.out.P; rw [List.take_length, HO5.out] at h9; simp only [List.append_assoc] at h9; exact h9, G5.out.M⟩
      | succ kq =>
        have hlt : (i : Int) < (g.f3.length : Int) := by omega
        have hil : i < g.f3.length := by omega
        obtain ⟨a3, B1, d1, B2, d2, B3, d3, ea, p0, p1, p2, p3, m1, q1, m2, q2, m3, q3⟩ := at_Ge H3.out i (by omega) (by omega)
        subst ea
        rw [rd_Ge_at _ _ hil] at p0 p1 p2 p3 q1 q2 q3 m1 m2 m3
        rw [Int.toNat_natCast] at p0 p1 p2 p3
        have HG := Aside0.mk (show IsG w0 (.agg #[.int .i64 (g.f3[i]).f0, .slice B1 (g.f3[i]).f1.length d1, .slice B2 (g.f3[i]).f2.length d2, .slice B3 (g.f3[i]).f3.length d3]) g.f3[i] from ⟨B1, d1, B2, d2, B3, d3, rfl, m1, q1, m2, q2, m3, q3⟩)
        have p0' := cell_below G5.out.P.K p0
        have p1' := cell_below G5.out.P.K p1
        have p2' := cell_below G5.out.P.K p2
        have p3' := cell_below G5.out.P.K p3
        have HTK := Aside0.mk (List.take_succ_eq_append_getElem hil)
        have hbt : bulks (g.f3.take i) + (g.f3[i]).bulk ≤ bulks g.f3 := by
          have h9 := bulks_take g.f3 (i + 1)
          rw [HTK.out, bulks_app] at h9
          simp only [bulks] at h9
          omega
        obtain ⟨c, hc⟩ : ∃ c, c = g.f3[i] := ⟨_, rfl⟩
        rw [← hc] at p0' p1' p2' p3' HG HTK hbt
        have hpl := partsB_le os (g.f3.take i) (k + 1)
        have HLN := Aside0.mk (show (o5 ++ partsB os (g.f3.take i) (k + 1)).length + 32 * c.bulk ≤ 70368744177664 ∧ k + 1 + cntL (g.f3.take i) + c.bulk ≤ 1152921504606846976 ∧ c.bulk ≤ n from by
          rw [List.length_append, HO5L.out]
          omega)
        clear hc p0 p1 p2 p3 q1 q2 q3 m1 m2 m3 hbt hpl
        go_wp2_with fail
        have G6 := Aside0.mk (G5.out.below (below_alloc (Below.refl _ _) (.cells #[.int .i64 c.f0, .slice B1 c.f1.length d1, .slice B2 c.f2.length d2, .slice B3 c.f3.length d3] 28)))
        clear G5 p0' p1' p2' p3'
        generalize wr.alloc (.cells #[.int .i64 c.f0, .slice B1 c.f1.length d1, .slice B2 c.f2.length d2, .slice B3 c.f3.length d3] 28) = wl at G6 ⊢
        refine (IH.out c w0 wl gp O co os (k + 1 + cntL (g.f3.take i)) vi (o5 ++ partsB os (g.f3.take i) (k + 1)) _ HLN.out.2.2 G6.out.P HG.out HLN.out.1 HLN.out.2.1 hos).mono ?_
        rintro e w7 ⟨rfl, v7, hp7, hm7⟩
        have G7 := Aside0.mk (G6.out.step hp7 hm7)
        clear G6 hp7 hm7
        go_wp2_with fail
        go_roundg kq
        case measure => omega
        case rel => exact ⟨i + 1, v7, by go_num, by omega, ⟨by have h9 := G7.out; rw [HTK.out, partsB_snoc, cntL_snoc]; simp only [List.append_assoc, Nat.add_assoc] at h9 ⊢; exact h9⟩⟩
end Go.Proofs.Ytiiolhnpnlmkjaa.Tree
namespace Go.Proofs.Ytiiolhnpnlmkjaa.Tree
open Go.RowKit Go.Proofs.YtiiolhnpnlmkjaaW.PrintWords Go.Proofs.YtiiolhnpnlmkjaaW.PrintLast Go.Proofs.YtiiolhnpnlmkjaaW.PrintMore
/-- A row has grown, perhaps in a new block; no other block that lay there was written. -/
structure OnlyRow (W W' : World) (v v' : Value) : Prop where
  size : W.heap.size ≤ W'.heap.size
  same : ∀ k, k < W.heap.size → some k ≠ v.ownBlock → W'.heap[k]? = W.heap[k]?
  new : ∀ k, v'.ownBlock = some k → v.ownBlock = some k ∨ W.heap.size ≤ k
theorem OnlyRow.trans {W W' W2 : World} {v v' v2 : Value} (h : OnlyRow W W' v v') (k : OnlyRow W' W2 v' v2) : OnlyRow W W2 v v2 :=
  ⟨Nat.le_trans h.size k.size, fun i hi hne => (k.same i (Nat.lt_of_lt_of_le hi h.size) (fun e => by
      rcases h.new i e.symm with h1 | h1
      · exact hne h1.symm
      · omega)).trans (h.same i hi hne), fun i hi => by
      rcases k.new i hi with h1 | h1
      · exact h.new i h1
      · exact .inr (Nat.le_trans h.size h1)⟩
theorem OnlyRow.below {W W' : World} (h : Below W.heap.size W W') (v : Value) : OnlyRow W W' v v := ⟨h.size, fun k hk _ => h.block k hk, fun k hk => .inl hk⟩
theorem OnlyRow.grown {W W' : World} {v v' : Value} (hg : W.grownBy W' v.ownBlock) (hat : v'.ownBlock = v.ownBlock ∨ ∃ b, v'.ownBlock = some b ∧ W.heap.size ≤ b) : OnlyRow W W' v v' :=
  ⟨hg.size, fun k hk hne => hg.block k hk hne, fun k hk => by
    rcases hat with h | ⟨b, h, hb⟩
    · exact .inl (h ▸ hk)
    · rw [h] at hk; cases hk; exact .inr hb⟩
theorem OnlyRow.keep {W W' : World} {v v' : Value} (h : OnlyRow W W' v v') {k : Nat} {o : Obj} (hk : W.heap[k]? = some o) (hne : some k ≠ v.ownBlock) : W'.heap[k]? = some o := (h.same k (blk_lt hk) hne).trans hk
/-- An item of such a list, as it lies there. -/
def ItemAt (w0 W : World) (ad : Addr) (x : It) : Prop := ∃ A1 c1 A2 c2 A3 c3, (W.cell? ad = some (.int .i64 x.f0.f0) ∧ W.cell? ⟨ad.block, ad.off + 1, none⟩ = some (.slice A1 x.f0.f1.length c1) ∧ W.cell? ⟨ad.block, ad.off + 2, none⟩ = some (.slice A2 x.f0.f2.length c2) ∧ W.cell? ⟨ad.block, ad.off + 3, none⟩ = some (.slice A3 x.f0.f3.length c3) ∧
  W.cell? ⟨ad.block, ad.off + 4, none⟩ = some (.int .i64 x.f1) ∧ W.cell? ⟨ad.block, ad.off + 5, none⟩ = some (.int .i64 x.f2)) ∧ IsG w0 (.agg #[.int .i64 x.f0.f0, .slice A1 x.f0.f1.length c1, .slice A2 x.f0.f2.length c2, .slice A3 x.f0.f3.length c3]) x.f0
theorem ItemAt.below {w0 W W1 : World} {ad : Addr} {x : It} (h : ItemAt w0 W ad x) (hb : Below W.heap.size W W1) : ItemAt w0 W1 ad x := by
  obtain ⟨A1, c1, A2, c2, A3, c3, ⟨e0, e1, e2, e3, e4, e5⟩, r⟩ := h
  exact ⟨A1, c1, A2, c2, A3, c3, ⟨cell_below hb e0, cell_below hb e1, cell_below hb e2, cell_below hb e3, cell_below hb e4, cell_below hb e5⟩, r⟩
/-- The items that the reference looks at. -/
def seen (g : Ge) : List It := (nodes g 1 0).take 65538
theorem and2047_le (y : Int) : 0 ≤ Go.bits .and .u64 y 2047 ∧ Go.bits .and .u64 y 2047 ≤ 2047 := by
  have e : Go.bits .and .u64 y 2047 = IntKind.u64.wrap ((BitVec.ofInt 64 y &&& BitVec.ofInt 64 2047).toNat : Int) := rfl
  rw [e, BitVec.toNat_and, IntKind.wrap_u64]
  have h : (BitVec.ofInt 64 y).toNat &&& (BitVec.ofInt 64 2047).toNat ≤ 2047 := by
    have h2 : (BitVec.ofInt 64 2047).toNat = 2047 := by decide
    rw [h2]
    exact Nat.and_le_right
  omega
theorem expo_le (x : Int) : 0 ≤ expo x ∧ expo x ≤ 2047 := by
  have h := and2047_le (x / 4503599627370496)
  unfold expo
  unfold wrap64
  omega
theorem finC_iff (x : Int) : finC classOf x = decide (expo x ≠ 2047) := by
  have h := expo_le x
  unfold finC classOf
  rw [decide_eq_decide]
  constructor
  · intro h1 h2
    rw [h2] at h1
    simp at h1
    split at h1 <;> omega
  · intro h1
    split
    · split <;> omega
    · rw [if_pos (by omega)]; omega
def kindB (k : Int) : Bool := decide (1 ≤ k) && decide (k ≤ 7)
def lacksB (g : Ge) : Bool := (decide (0 < g.f1.length) && decide (2 < g.f0)) || ((decide (0 < g.f2.length) && decide (g.f0 ≠ 3)) || (decide (0 < g.f3.length) && decide (g.f0 < 4)))
def shapedB (x : It) : Bool := kindB x.f0.f0 && (fitsB x.f0.f0 x.f2 && (!lacksB x.f0 && ((x.f0.f2.all fun r => !r.isEmpty) && (decide (x.f0.f0 ≠ 1) || decide (x.f0.f1.length ≤ 1)))))
theorem shaped_eq (x : It) : shapedB x = (listsB x.f0 && fitsB x.f0.f0 x.f2) := by
  obtain ⟨⟨k, l, r, p⟩, lv, o⟩ := x
  unfold shapedB listsB kindB lacksB
  dsimp only
  have hR : r.length = 0 → (r.all fun r => !r.isEmpty) = true := by
    intro h
    rw [List.length_eq_zero_iff.1 h]
    rfl
  generalize (r.all fun r => !r.isEmpty) = R at hR ⊢
  generalize fitsB k o = F
  generalize l.length = a at *
  generalize r.length = b at *
  generalize p.length = c at *
  cases F with
  | false => simp
  | true =>
    rw [Bool.eq_iff_iff]
    cases R with
    | false =>
      have hb : b ≠ 0 := fun e => by cases hR e
      by_cases h1 : k = 1
      · simp [h1, hb]
      · by_cases h2 : k = 2
        · simp [h2, hb]
        · by_cases h3 : k = 3
          · simp [h3]
          · by_cases h4 : k = 4 ∨ k = 5 ∨ k = 6 ∨ k = 7
            · rw [if_neg h1, if_neg h2, if_neg h3, if_pos h4]; simp [hb]
            · rw [if_neg h1, if_neg h2, if_neg h3, if_neg h4]; simp
    | true =>
      by_cases h1 : k = 1
      · subst h1; simp <;> omega
      · by_cases h2 : k = 2
        · subst h2; simp <;> omega
        · by_cases h3 : k = 3
          · subst h3; simp <;> omega
          · by_cases h4 : k = 4 ∨ k = 5 ∨ k = 6 ∨ k = 7
            · rw [if_neg h1, if_neg h2, if_neg h3, if_pos h4]; simp <;> omega
            · rw [if_neg h1, if_neg h2, if_neg h3, if_neg h4]; simp <;> omega
theorem wrong_many (x : It) (n : Int) (h : 65536 < n) : wrongC x n ≠ 0 := by
  unfold wrongC
  split
  · decide
  · simp [h]
    split <;> decide
theorem scan_take : ∀ (m : Nat) (l : List It) (k n : Nat), 1 ≤ m → 65536 < n + m → scanC k n (l.take m) = scanC k n l := by
  intro m
  induction m with
  | zero => intro l k n h; omega
  | succ m ih =>
    intro l k n _ hn
    cases l with
    | nil => rfl
    | cons x l =>
      rw [List.take_succ_cons, scanC_cons, scanC_cons]
      split
      · rename_i h0
        by_cases hm : m = 0
        · exact absurd h0 (wrong_many x _ (by omega))
        · exact ih l _ _ (by omega) (by omega)
      · rfl
theorem checkR_seen (g : Ge) : scanC 0 0 (seen g) = checkR g := by
  unfold seen checkR
  exact scan_take 65538 _ 0 0 (by omega) (by omega)
theorem finL_append (a b : List Pt) : finL (a ++ b) = (finL a && finL b) := by unfold finL finLC; rw [List.all_append]
theorem finL_flat (l : List (List Pt)) : finL l.flatten = l.all finL := by
  induction l with
  | nil => rfl
  | cons a l ih => rw [List.flatten_cons, finL_append, ih, List.all_cons]
theorem finL_own (g : Ge) : finL (own g) = (finL g.f1 && g.f2.all finL) := by unfold own; rw [finL_append, finL_flat]
theorem wrong_eq (x : It) (n : Int) : wrongC x n = if 256 < x.f1 then 151 else if shapedB x = true then (if 65536 < n then 152 else if finL (own x.f0) = true then 0 else 155) else 150 := by
  unfold wrongC
  rw [shaped_eq, finL_own]
/-- The items from k on, so many geometries and points ahead of them. -/
def upAll (g : Ge) (k : Nat) : Nat := k + ptsOf ((seen g).take k)
def Fine (g : Ge) (k : Nat) : Prop := scanC 0 0 (seen g) = scanC k (upAll g k) ((seen g).drop k)
theorem upAll_succ (g : Ge) (k : Nat) (h : k < (seen g).length) : upAll g (k + 1) = upAll g k + 1 + (own (seen g)[k].f0).length := by
  unfold upAll
  rw [List.take_succ_eq_append_getElem h, ptsOf_snoc]
  omega
theorem Fine.bad {g : Ge} {k : Nat} (hf : Fine g k) (h : k < (seen g).length) (hw : wrongC (seen g)[k] ((upAll g (k + 1) : Nat) : Int) ≠ 0) : checkR g = some ((k : Int), wrongC (seen g)[k] ((upAll g (k + 1) : Nat) : Int)) := by
  rw [← checkR_seen, hf, List.drop_eq_getElem_cons h, scanC_cons, ← upAll_succ g k h, if_neg hw]
theorem Fine.next {g : Ge} {k : Nat} (hf : Fine g k) (h : k < (seen g).length) (hw : wrongC (seen g)[k] ((upAll g (k + 1) : Nat) : Int) = 0) : Fine g (k + 1) := by
  unfold Fine
  rw [hf, List.drop_eq_getElem_cons h, scanC_cons, ← upAll_succ g k h, if_pos hw]
end Go.Proofs.Ytiiolhnpnlmkjaa.Tree
namespace Go.Proofs.Ytiiolhnpnlmkjaa.Tree
open Go.RowKit Go.Proofs.Ytiiolhnpnlmkjaa.PWkbPrints Go.Proofs.YtiiolhnpnlmkjaaW.PrintWords Go.Proofs.YtiiolhnpnlmkjaaW.PrintLast Go.Proofs.YtiiolhnpnlmkjaaW.PrintMore
attribute [local go_sem] Oper.semAt_some max2_int max_two min2_int min_two
/-- What is written: nothing, where the check does not take the tree. -/
def mixedB (os : List Bool) (g : Ge) : List Int := if checkR g = none then geoB os g 0 else []
theorem ErrV.iface {w : World} {v : Value} {a c : Int} (h : ErrV w v (some (a, c))) : ∃ g : Nat, v = .iface 107 (.pointer (some ⟨g, 0, none⟩)) := by
  obtain ⟨g, e, _⟩ := h
  exact ⟨g, e⟩
set_option maxRecDepth 100000 in
set_option maxHeartbeats 16000000 in
theorem mixed_calls (v : Value) (g : Ge) (O : Option Addr) (co : Nat) (os : List Bool) (w : World) (hv : IsG w v g) (ho : Kd.bool.C w O os.length os) (hbk : g.bulk ≤ 2097152) (hos : os.length ≤ 1152921504606846976) :
    Calls Try.prog 11 #[v, .slice O os.length co] w fun e w' => ∃ u er, e = .returned (.tuple #[u, er]) ∧ kB.R 5 w' w.heap.size (fun _ => True) u (mixedB os g) ∧ ErrV w' er (checkR g) ∧ Below w.heap.size w w' := by
  have hv' := hv
  obtain ⟨A1, c1, A2, c2, A3, c3, rfl, l1, h1, l2, h2, l3, h3⟩ := hv'
  have HV := Aside0.mk hv
  have HO := Aside0.mk ho
  clear hv ho h1 h2 h3
  go_enter Try.func11, Try.ntmps11
  go_wp2_with fail
  obtain ⟨gb, hgb⟩ : ∃ y, y = w.heap.size := ⟨_, rfl⟩
  obtain ⟨W1, hW1⟩ : ∃ y, y = w.alloc (.cells #[.int .i64 g.f0, .slice A1 g.f1.length c1, .slice A2 g.f2.length c2, .slice A3 g.f3.length c3] 28) := ⟨_, rfl⟩
  rw [← hW1, ← hgb]
  have HB1 := Aside0.mk (show Below w.heap.size w W1 by rw [hW1]; exact below_alloc (Below.refl _ _) _)
  have BK := Aside0.mk (show W1.heap[gb]? = some (.cells #[.int .i64 g.f0, .slice A1 g.f1.length c1, .slice A2 g.f2.length c2, .slice A3 g.f3.length c3] 28 (0, 0)) by rw [hW1, hgb]; exact World.alloc_heap_new _ _)
  clear hW1 hgb
  refine (check_calls _ g W1 (HV.out.below HB1.out) (by omega)).mono ?_
  rintro e W2 ⟨er, rfl, her, hb2⟩
  have HB2 := Aside0.mk (below_step HB1.out hb2)
  have BK2 := Aside0.mk ((hb2.block gb (blk_lt BK.out)).trans BK.out)
  have HER := Aside0.mk her
  clear HB1 BK her hb2
  rcases hck : checkR g with _ | ⟨a, c⟩
  · obtain rfl : er = .nilIface := by have h9 := HER.out; rw [hck] at h9; exact h9
    have hb3 : Below W2.heap.size W2 (W2.alloc (.cells #[.slice none 0 0, .slice O os.length co, .int .i64 0] 71)) := below_alloc (Below.refl _ _) _
    have z0_ := pw_cell_below hb3 ((blk_cell BK2.out 0).trans rfl : W2.cell? ⟨gb, 0, none⟩ = some (.int .i64 g.f0))
    have z1_ := pw_cell_below hb3 ((blk_cell BK2.out 1).trans rfl : W2.cell? ⟨gb, 1, none⟩ = some (.slice A1 g.f1.length c1))
    have z2_ := pw_cell_below hb3 ((blk_cell BK2.out 2).trans rfl : W2.cell? ⟨gb, 2, none⟩ = some (.slice A2 g.f2.length c2))
    have z3_ := pw_cell_below hb3 ((blk_cell BK2.out 3).trans rfl : W2.cell? ⟨gb, 3, none⟩ = some (.slice A3 g.f3.length c3))
    have HP := Aside0.mk (show Pr 71 cfP W2 (W2.alloc (.cells #[.slice none 0 0, .slice O os.length co, .int .i64 0] 71)) W2.heap.size O co os 0 (.slice none 0 0) [] from
      ⟨World.alloc_heap_new _ _, Kd.R_nil _ _ _ _ _, Kd.C_below HO.out HB2.out, Nat.le_refl _, hb3⟩)
    clear hb3
    go_wp2_with fail
    refine (pgeom_calls g.bulk g W2 _ W2.heap.size O co os 0 _ [] _ (Nat.le_refl _) HP.out (HV.out.below HB2.out) (by simp; omega) (by omega) hos).mono ?_
    rintro e W4 ⟨rfl, v4, hp4, -⟩
    obtain ⟨A4, c4, rfl⟩ := Kd.R_slice hp4.r
    have z0_ : W4.cell? ⟨W2.heap.size, 0, none⟩ = some (.slice A4 ([] ++ geoB os g 0).length c4) := (blk_cell hp4.c 0).trans rfl
    rw [List.nil_append] at z0_ hp4
    have HP4 := Aside0.mk hp4
    clear hp4 HP
    go_wp2_with fail
    refine bodyPost_ret (results_tmp2 rfl _ _ _) rfl ?_
    exact ⟨.slice A4 (geoB os g 0).length c4, .nilIface, rfl, by rw [mixedB, if_pos hck]; exact Kd.R_lower (Kd.R_mono HP4.out.r (fun _ _ => trivial)) HB2.out.size, by rw [hck]; rfl, below_step HB2.out HP4.out.K⟩
  · obtain ⟨ge, rfl⟩ := ErrV.iface (by have h9 := HER.out; rw [hck] at h9; exact h9)
    go_wp2_with fail
    refine bodyPost_ret (results_tmp2 rfl _ _ _) rfl ?_
    exact ⟨.slice none 0 0, .iface 107 (.pointer (some ⟨ge, 0, none⟩)), rfl, by rw [mixedB, if_neg (by rw [hck]; simp)]; exact Kd.R_nil _ _ _ _ _, HER.out, HB2.out⟩
theorem bool_lit (W : World) (le : Bool) : Kd.bool.C (W.alloc (.cells #[.bool le] 4)) (some ⟨W.heap.size, 0, none⟩) 1 [le] := by
  have h : Kd.bool.R 4 (W.alloc (.cells #[.bool le] 4)) W.heap.size (fun _ => True) (.slice (some ⟨W.heap.size, 0, none⟩) 1 1) [le] :=
    Kd.R_of_own ⟨by simp [encs], .inr ⟨W.heap.size, 1, #[.bool le], rfl, Nat.le_refl _, World.alloc_heap_new _ _, Nat.le_refl _, by decide, by simp, by simp [encs]⟩⟩ (fun _ _ => trivial)
  exact (Kd.R_reads' h).2.2
set_option maxRecDepth 100000 in
set_option maxHeartbeats 16000000 in
theorem print_calls (v : Value) (g : Ge) (le : Bool) (w : World) (hv : IsG w v g) (hbk : g.bulk ≤ 2097152) :
    Calls Try.prog 7 #[v, .bool le] w fun e w' => ∃ u er, e = .returned (.tuple #[u, er]) ∧ kB.R 5 w' w.heap.size (fun _ => True) u (mixedB [le] g) ∧ ErrV w' er (checkR g) ∧ Below w.heap.size w w' := by
  have hv' := hv
  obtain ⟨A1, c1, A2, c2, A3, c3, rfl, l1, h1, l2, h2, l3, h3⟩ := hv'
  have HV := Aside0.mk hv
  clear hv h1 h2 h3
  go_enter Try.func7, Try.ntmps7
  go_wp2_with fail
  have hba : Below w.heap.size w (w.alloc (.cells #[.int .i64 g.f0, .slice A1 g.f1.length c1, .slice A2 g.f2.length c2, .slice A3 g.f3.length c3] 28)) := below_alloc (Below.refl _ _) _
  have hbb : Below w.heap.size w ((w.alloc (.cells #[.int .i64 g.f0, .slice A1 g.f1.length c1, .slice A2 g.f2.length c2, .slice A3 g.f3.length c3] 28)).alloc (.cells #[.bool le] 4)) := below_alloc hba _
  have hlt := bool_lit (w.alloc (.cells #[.int .i64 g.f0, .slice A1 g.f1.length c1, .slice A2 g.f2.length c2, .slice A3 g.f3.length c3] 28)) le
  rw [show (w.alloc (.cells #[.int .i64 g.f0, .slice A1 g.f1.length c1, .slice A2 g.f2.length c2, .slice A3 g.f3.length c3] 28)).heap.size = w.heap.size + 1 from by simp] at hlt
  refine (mixed_calls _ g (some ⟨w.heap.size + 1, 0, none⟩) 1 [le] _ (HV.out.below hbb) hlt hbk (by simp)).mono ?_
  rintro e W2 ⟨u, er, rfl, hu, her, hb2⟩
  have HU := Aside0.mk (And.intro (Kd.R_lower hu hbb.size) (And.intro her (below_step hbb hb2)))
  clear hba hbb hlt hu her hb2
  go_wp2_with fail
  refine bodyPost_ret (results_tmp2 rfl _ _ _) rfl ?_
  exact ⟨u, er, rfl, HU.out.1, HU.out.2.1, HU.out.2.2⟩
end Go.Proofs.Ytiiolhnpnlmkjaa.Tree
namespace Go.Proofs.Ytiiolhnpnlmkjaa.Tree
open Go.RowKit Go.Proofs.Ytiiolhnpnlmkjaa.PWkbPrints Go.Proofs.YtiiolhnpnlmkjaaW.PrintWords Go.Proofs.YtiiolhnpnlmkjaaW.PrintLast Go.Proofs.YtiiolhnpnlmkjaaW.PrintMore
attribute [local go_sem] Oper.semAt_some max2_int max_two min2_int min_two
def ringsN (l : List (List Pt)) : Nat := 4 * l.length + 16 * l.flatten.length
theorem ringsN_snoc (l : List (List Pt)) (r : List Pt) : ringsN (l ++ [r]) = ringsN l + (4 + 16 * r.length) := by unfold ringsN; simp; omega
mutual
def sizeG : Ge → Nat
  | ⟨k, l, r, ps⟩ => if k = 1 then 21 else if k = 3 then 9 + ringsN r else 5 + (4 + 16 * l.length) + sizeL ps
def sizeL : List Ge → Nat
  | [] => 0
  | p :: ps => sizeG p + sizeL ps
end
theorem sizeG_eq (g : Ge) : sizeG g = if g.f0 = 1 then 21 else if g.f0 = 3 then 9 + ringsN g.f2 else 5 + (4 + 16 * g.f1.length) + sizeL g.f3 := by cases g; simp only [sizeG]
theorem sizeL_append (a b : List Ge) : sizeL (a ++ b) = sizeL a + sizeL b := by
  induction a with
  | nil => simp [sizeL]
  | cons p a ih => simp only [List.cons_append, sizeL, ih]; omega
theorem sizeL_snoc (a : List Ge) (p : Ge) : sizeL (a ++ [p]) = sizeL a + sizeG p := by rw [sizeL_append]; simp [sizeL]
theorem size_len (m : Nat) : (∀ g : Ge, g.bulk ≤ m → sizeG g ≤ 32 * g.bulk) ∧ (∀ l : List Ge, bulks l ≤ m → sizeL l ≤ 32 * bulks l) := by
  induction m with
  | zero =>
    refine ⟨fun g h => by have := g.bulk_eq; omega, fun l h => ?_⟩
    cases l with
    | nil => simp [sizeL, bulks]
    | cons p l => simp only [bulks] at h; have := p.bulk_eq; omega
  | succ m ih =>
    have hg : ∀ g : Ge, g.bulk ≤ m + 1 → sizeG g ≤ 32 * g.bulk := by
      intro g h
      have hb := g.bulk_eq
      have h1 := ih.2 g.f3 (by omega)
      rw [sizeG_eq]
      repeat' split
      · omega
      · unfold ringsN; omega
      · omega
    refine ⟨hg, fun l => ?_⟩
    induction l with
    | nil => intro _; simp [sizeL, bulks]
    | cons p l ihl =>
      intro h
      simp only [bulks] at h ⊢
      have h1 := hg p (by omega)
      have h2 := ihl (by omega)
      simp only [sizeL]
      omega
theorem sizeG_le (g : Ge) : sizeG g ≤ 32 * g.bulk := (size_len g.bulk).1 g (Nat.le_refl _)
theorem sizeL_le (l : List Ge) : sizeL l ≤ 32 * bulks l := (size_len (bulks l)).2 l (Nat.le_refl _)
set_option maxRecDepth 100000 in
set_option maxHeartbeats 16000000 in
theorem size_calls (n : Nat) : ∀ (v : Value) (g : Ge) (w : World), IsG w v g → g.bulk ≤ n → n ≤ 2097152 →
    Calls Try.prog 28 #[v] w fun e w' => e = .returned (.int .i64 (sizeG g)) ∧ Below w.heap.size w w' := by
  induction n with
  | zero => intro v g w _ h; have := g.bulk_eq; omega
  | succ n ih =>
  intro v g w hv hbk hn
  have hv' := hv
  obtain ⟨A1, c1, A2, c2, A3, c3, rfl, l1, h1, l2, h2, l3, h3⟩ := hv'
  have hbq := g.bulk_eq
  have HE := Aside0.mk (sizeG_eq g)
  have H2 := Aside0.mk h2
  have H3 := Aside0.mk h3
  have IH := Aside0.mk ih
  clear hv h1 h2 h3 ih
  go_enter Try.func28, Try.ntmps28
  have HB0 := Aside0.mk (fun o => (below_alloc (Below.refl w.heap.size w) o))
  by_cases k1 : g.f0 = 1
  · have k1' : (g.f0 == 1) = true := by rw [k1]; rfl
    rw [if_pos k1] at HE
    go_wp2_with fail
    go_ret
    exact ⟨by rw [HE.out]; rfl, HB0.out _⟩
  have k1' : (g.f0 == 1) = false := beq_eq_false_iff_ne.2 k1
  rw [if_neg k1] at HE
  by_cases k3 : g.f0 = 3
  · have k3' : (g.f0 == 3) = true := by rw [k3]; rfl
    rw [if_pos k3] at HE
    go_wp2_with fail
    go_loopg [3, 5, 21] g.f2.length (fun kq s3 x5 ii wr => ∃ i : Nat, s3 = .int .i64 ((9 + ringsN (g.f2.take i) : Nat) : Int) ∧ ii = .int .i64 (i : Int) ∧ i + kq = g.f2.length ∧ Aside0 (Below w.heap.size w wr))
    case atStart => exact ⟨0, rfl, rfl, by omega, ⟨HB0.out _⟩⟩
    case round =>
      clear HB0
      obtain ⟨i, rfl, rfl, hi, HB⟩ := hrel
      cases gk with
      | zero =>
        have hlt : ¬ ((i : Int) < (g.f2.length : Int)) := by omega
        obtain rfl : i = g.f2.length := by omega
        rw [List.take_length]
        go_wp2_with fail
        go_ret
        exact ⟨by rw [HE.out]; rfl, HB.out⟩
      | succ kq =>
        have hlt : (i : Int) < (g.f2.length : Int) := by omega
        have hil : i < g.f2.length := by omega
        obtain ⟨ad, A4, c4, e4, p0, hc4, hr4⟩ := at_L2 H2.out (i : Int) (by omega) (by omega)
        have hrd : rd_L2 g.f2 (i : Int) = g.f2[i] := by simp [rd_L2, List.getD_eq_getElem?_getD, List.getElem?_eq_getElem hil]
        rw [hrd, Int.toNat_natCast] at p0
        subst e4
        have p0' := cell_below HB.out p0
        have HTK := Aside0.mk (List.take_succ_eq_append_getElem hil)
        have hrn : ringsN (g.f2.take i) ≤ 4 * g.f2.length + 16 * g.f2.flatten.length ∧ g.f2[i].length ≤ g.f2.flatten.length := by
          have h9 := congrArg (fun l => l.flatten.length) (List.take_append_drop i g.f2)
          simp only [List.flatten_append, List.length_append] at h9
          rw [List.drop_eq_getElem_cons hil, List.flatten_cons, List.length_append] at h9
          unfold ringsN
          rw [List.length_take]
          omega
        obtain ⟨r, hr⟩ : ∃ r, r = g.f2[i] := ⟨_, rfl⟩
        rw [← hr] at p0' HTK hrn
        obtain ⟨m, hm⟩ : ∃ m, m = 9 + ringsN (g.f2.take i) := ⟨_, rfl⟩
        rw [← hm]
        have hm2 : m ≤ 100000000 := by omega
        have hr2 : r.length ≤ 2097152 := by omega
        have HM := Aside0.mk hm
        clear hrd p0 hr hr4 hc4 hm hrn
        go_wp2_with fail
        go_roundg kq
        case measure => omega
        case rel => exact ⟨i + 1, congrArg (Value.int IntKind.i64) (by rw [HTK.out, ringsN_snoc, ← Nat.add_assoc, ← HM.out]; omega), by go_num, by omega, HB⟩
  have k3' : (g.f0 == 3) = false := beq_eq_false_iff_ne.2 k3
  rw [if_neg k3] at HE
  have hb3 : g.f3.length ≤ 2097152 := by have := bulks_len g.f3; omega
  have hb1 : g.f1.length ≤ 2097152 := by omega
  go_wp2_with fail
  go_loopg [3, 7, 43] g.f3.length (fun kq s3 x7 ii wr => ∃ i : Nat, s3 = .int .i64 ((5 + (4 + 16 * g.f1.length) + sizeL (g.f3.take i) : Nat) : Int) ∧ ii = .int .i64 (i : Int) ∧ i + kq = g.f3.length ∧ Aside0 (Below w.heap.size w wr))
  case atStart => exact ⟨0, congrArg (Value.int IntKind.i64) (by simp only [List.take_zero, sizeL]; omega), rfl, by omega, ⟨HB0.out _⟩⟩
  case round =>
    clear HB0
    obtain ⟨i, rfl, rfl, hi, HB⟩ := hrel
    cases gk with
    | zero =>
      have hlt : ¬ ((i : Int) < (g.f3.length : Int)) := by omega
      obtain rfl : i = g.f3.length := by omega
      rw [List.take_length]
      go_wp2_with fail
      go_ret
      exact ⟨by rw [HE.out]; rfl, HB.out⟩
    | succ kq =>
      have hlt : (i : Int) < (g.f3.length : Int) := by omega
      have hil : i < g.f3.length := by omega
      obtain ⟨a3, B1, d1, B2, d2, B3, d3, ea, p0, p1, p2, p3, m1, q1, m2, q2, m3, q3⟩ := at_Ge H3.out i (by omega) (by omega)
      subst ea
      rw [rd_Ge_at _ _ hil] at p0 p1 p2 p3 q1 q2 q3 m1 m2 m3
      rw [Int.toNat_natCast] at p0 p1 p2 p3
      have HG := Aside0.mk (show IsG w (.agg #[.int .i64 (g.f3[i]).f0, .slice B1 (g.f3[i]).f1.length d1, .slice B2 (g.f3[i]).f2.length d2, .slice B3 (g.f3[i]).f3.length d3]) g.f3[i] from ⟨B1, d1, B2, d2, B3, d3, rfl, m1, q1, m2, q2, m3, q3⟩)
      have p0' := cell_below HB.out p0
      have p1' := cell_below HB.out p1
      have p2' := cell_below HB.out p2
      have p3' := cell_below HB.out p3
      have HTK := Aside0.mk (List.take_succ_eq_append_getElem hil)
      have hbt : bulks (g.f3.take i) + (g.f3[i]).bulk ≤ bulks g.f3 := by
        have h9 := bulks_take g.f3 (i + 1)
        rw [HTK.out, bulks_app] at h9
        simp only [bulks] at h9
        omega
      obtain ⟨c, hc⟩ : ∃ c, c = g.f3[i] := ⟨_, rfl⟩
      rw [← hc] at p0' p1' p2' p3' HG HTK hbt
      have hs1 := sizeL_le (g.f3.take i)
      have hs2 := sizeG_le c
      obtain ⟨m, hm⟩ : ∃ m, m = 5 + (4 + 16 * g.f1.length) + sizeL (g.f3.take i) := ⟨_, rfl⟩
      rw [← hm]
      have hm2 : m ≤ 1000000000 := by omega
      have hs3 : sizeG c ≤ 1000000000 := by omega
      have HM := Aside0.mk hm
      have HCB := Aside0.mk (show c.bulk ≤ n by omega)
      clear hc p0 p1 p2 p3 q1 q2 q3 m1 m2 m3 hbt hs1 hs2 hm
      go_wp2_with fail
      have hbl : Below w.heap.size w (wr.alloc (.cells #[.int .i64 c.f0, .slice B1 c.f1.length d1, .slice B2 c.f2.length d2, .slice B3 c.f3.length d3] 28)) := below_step HB.out (below_alloc (Below.refl _ _) _)
      refine (IH.out _ c _ (HG.out.below hbl) HCB.out (by omega)).mono ?_
      rintro e w7 ⟨rfl, hb7⟩
      have HB7 := Aside0.mk (below_step hbl hb7)
      clear hbl hb7 HB
      go_wp2_with fail
      go_roundg kq
      case measure => omega
      case rel => exact ⟨i + 1, congrArg (Value.int IntKind.i64) (by rw [HTK.out, sizeL_snoc, ← Nat.add_assoc, ← HM.out]; omega), by go_num, by omega, HB7⟩
def sizedN (g : Ge) : Nat := if checkR g = none then sizeG g else 0
set_option maxRecDepth 100000 in
set_option maxHeartbeats 16000000 in
theorem Size_calls (v : Value) (g : Ge) (w : World) (hv : IsG w v g) (hbk : g.bulk ≤ 2097152) :
    Calls Try.prog 15 #[v] w fun e w' => ∃ er, e = .returned (.tuple #[.int .i64 (sizedN g), er]) ∧ ErrV w' er (checkR g) ∧ Below w.heap.size w w' := by
  have hv' := hv
  obtain ⟨A1, c1, A2, c2, A3, c3, rfl, l1, h1, l2, h2, l3, h3⟩ := hv'
  have HV := Aside0.mk hv
  clear hv h1 h2 h3
  go_enter Try.func15, Try.ntmps15
  go_wp2_with fail
  obtain ⟨gb, hgb⟩ : ∃ y, y = w.heap.size := ⟨_, rfl⟩
  obtain ⟨W1, hW1⟩ : ∃ y, y = w.alloc (.cells #[.int .i64 g.f0, .slice A1 g.f1.length c1, .slice A2 g.f2.length c2, .slice A3 g.f3.length c3] 28) := ⟨_, rfl⟩
  rw [← hW1, ← hgb]
  have HB1 := Aside0.mk (show Below w.heap.size w W1 by rw [hW1]; exact below_alloc (Below.refl _ _) _)
  have BK := Aside0.mk (show W1.heap[gb]? = some (.cells #[.int .i64 g.f0, .slice A1 g.f1.length c1, .slice A2 g.f2.length c2, .slice A3 g.f3.length c3] 28 (0, 0)) by rw [hW1, hgb]; exact World.alloc_heap_new _ _)
  clear hW1 hgb
  refine (check_calls _ g W1 (HV.out.below HB1.out) (by omega)).mono ?_
  rintro e W2 ⟨er, rfl, her, hb2⟩
  have HB2 := Aside0.mk (below_step HB1.out hb2)
  have BK2 := Aside0.mk ((hb2.block gb (blk_lt BK.out)).trans BK.out)
  have HER := Aside0.mk her
  clear HB1 BK her hb2
  rcases hck : checkR g with _ | ⟨a, c⟩
  · obtain rfl : er = .nilIface := by have h9 := HER.out; rw [hck] at h9; exact h9
    have z0_ : W2.cell? ⟨gb, 0, none⟩ = some (.int .i64 g.f0) := (blk_cell BK2.out 0).trans rfl
    have z1_ : W2.cell? ⟨gb, 1, none⟩ = some (.slice A1 g.f1.length c1) := (blk_cell BK2.out 1).trans rfl
    have z2_ : W2.cell? ⟨gb, 2, none⟩ = some (.slice A2 g.f2.length c2) := (blk_cell BK2.out 2).trans rfl
    have z3_ : W2.cell? ⟨gb, 3, none⟩ = some (.slice A3 g.f3.length c3) := (blk_cell BK2.out 3).trans rfl
    go_wp2_with fail
    refine (size_calls g.bulk _ g W2 (HV.out.below HB2.out) (Nat.le_refl _) hbk).mono ?_
    rintro e W4 ⟨rfl, hb4⟩
    have HB4 := Aside0.mk (below_step HB2.out hb4)
    clear hb4
    go_wp2_with fail
    refine bodyPost_ret (results_tmp2 rfl _ _ _) rfl ?_
    exact ⟨.nilIface, by rw [sizedN, if_pos hck]; rfl, by rw [hck]; rfl, HB4.out⟩
  · obtain ⟨ge, rfl⟩ := ErrV.iface (by have h9 := HER.out; rw [hck] at h9; exact h9)
    go_wp2_with fail
    refine bodyPost_ret (results_tmp2 rfl _ _ _) rfl ?_
    exact ⟨.iface 107 (.pointer (some ⟨ge, 0, none⟩)), by rw [sizedN, if_neg (by rw [hck]; simp)]; rfl, HER.out, HB2.out⟩
end Go.Proofs.Ytiiolhnpnlmkjaa.Tree
namespace Go.Proofs.Ytiiolhnpnlmkjaa.Tree
open Go.RowKit Go.Proofs.Ytiiolhnpnlmkjaa.PWkbPrints Go.Proofs.YtiiolhnpnlmkjaaW.PrintWords Go.Proofs.YtiiolhnpnlmkjaaW.PrintLast Go.Proofs.YtiiolhnpnlmkjaaW.PrintMore
theorem scan_all : ∀ (l : List It) (k n : Nat), scanC k n l = none → ∀ x ∈ l, shapedB x = true := by
  intro l
  induction l with
  | nil => intro k n _ x hx; cases hx
  | cons y l ih =>
    intro k n h x hx
    rw [scanC_cons] at h
    split at h
    · rename_i h0
      rcases List.mem_cons.1 hx with rfl | hx
      · rw [wrong_eq] at h0
        by_cases hs : shapedB x = true
        · exact hs
        · exfalso
          rw [if_neg hs] at h0
          split at h0 <;> cases h0
      · exact ih _ _ h x hx
    · cases h
/-- Every geometry of a tree is shaped. -/
def AllS (g : Ge) (lvl o : Int) : Prop := ∀ x ∈ nodes g lvl o, shapedB x = true
theorem AllS.of {g : Ge} (h : checkR g = none) : AllS g 1 0 := scan_all _ _ _ h
theorem AllS.here {g : Ge} {lvl o : Int} (h : AllS g lvl o) : shapedB ⟨g, lvl, o⟩ = true := h _ (by rw [nodes_eq]; exact List.mem_cons_self ..)
theorem AllS.part {g p : Ge} {lvl o : Int} (h : AllS g lvl o) (hp : p ∈ g.f3) : AllS p (lvl + 1) g.f0 := by
  intro x hx
  refine h x ?_
  rw [nodes_eq]
  refine List.mem_cons_of_mem _ ?_
  rw [nodesL_flat]
  exact List.mem_flatten.2 ⟨_, List.mem_map.2 ⟨p, hp, rfl⟩, hx⟩
theorem shaped_parts {g : Ge} {lvl o : Int} (h : shapedB ⟨g, lvl, o⟩ = true) : (1 ≤ g.f0 ∧ g.f0 ≤ 7) ∧ (2 < g.f0 → g.f1.length = 0) ∧ (g.f0 < 4 → g.f3.length = 0) ∧ (g.f0 = 1 → g.f1.length ≤ 1) := by
  unfold shapedB kindB lacksB at h
  simp only [Bool.and_eq_true, Bool.or_eq_true, decide_eq_true_iff, Bool.not_eq_true', Bool.or_eq_false_iff, Bool.and_eq_false_iff, decide_eq_false_iff_not] at h
  obtain ⟨hk, _, ⟨h1, _, h3⟩, _, h4⟩ := h
  refine ⟨hk, fun h => ?_, fun h => ?_, fun h => ?_⟩
  · rcases h1 with h1 | h1 <;> omega
  · rcases h3 with h3 | h3 <;> omega
  · rcases h4 with h4 | h4
    · exact absurd h h4
    · exact h4
theorem size_eq (os : List Bool) (m : Nat) : ∀ (g : Ge) (lvl o : Int) (n : Nat), g.bulk ≤ m → AllS g lvl o → sizeG g = (geoB os g n).length := by
  induction m with
  | zero => intro g _ _ _ h; have := g.bulk_eq; omega
  | succ m ih =>
    intro g lvl o n hb h
    have hbq := g.bulk_eq
    obtain ⟨hk, s1, s3, s4⟩ := shaped_parts h.here
    have hparts : ∀ (l : List Ge) (k : Nat), (∀ p ∈ l, p ∈ g.f3) → sizeL l = (partsB os l k).length := by
      intro l
      induction l with
      | nil => intro k _; rfl
      | cons p l ihl =>
        intro k hs
        have hp := hs p (List.mem_cons_self ..)
        simp only [sizeL, partsB, List.length_append]
        rw [ihl (k + cntG p) (fun q hq => hs q (List.mem_cons_of_mem _ hq)), ih p (lvl + 1) g.f0 k (by have := bulks_mem hp; omega) (h.part hp)]
    have hpar := hparts g.f3 (n + 1) (fun p hp => hp)
    have e1 := ptsB_len (ordAt os n) [nanP]
    have e2 := ptsB_len (ordAt os n) g.f1
    have e3 := ringsB_len (ordAt os n) g.f2
    simp only [List.length_singleton] at e1
    rw [sizeG_eq, geoB_eq]
    simp only [List.length_append, P32_len, bitB, List.length_singleton]
    by_cases k1 : g.f0 = 1
    · rw [if_pos k1, if_pos k1]
      have := s4 k1
      split
      · rw [e1]
      · rw [e2]; omega
    rw [if_neg k1, if_neg k1]
    by_cases k2 : g.f0 = 2
    · rw [if_neg (by omega), if_pos k2, List.length_append, P32_len, e2]
      have h0 := List.eq_nil_of_length_eq_zero (s3 (by omega))
      rw [h0]
      simp only [sizeL]
      omega
    rw [if_neg k2]
    by_cases k3 : g.f0 = 3
    · rw [if_pos k3, if_pos k3, List.length_append, P32_len, e3]
      unfold ringsN
      omega
    rw [if_neg k3, if_neg k3, List.length_append, P32_len, s1 (by omega), hpar]
    omega
theorem sized_eq (os : List Bool) (g : Ge) : sizedN g = (mixedB os g).length := by
  unfold sizedN mixedB
  split
  · rename_i h
    exact size_eq os g.bulk g 1 0 0 (Nat.le_refl _) (AllS.of h)
  · rfl
end Go.Proofs.Ytiiolhnpnlmkjaa.Tree
namespace Go.Proofs.Ytiiolhnpnlmkjaa.Tree
open Go.RowKit Go.Proofs.Ytiiolhnpnlmkjaa.PWkbPrints Go.Proofs.YtiiolhnpnlmkjaaW.PrintWords Go.Proofs.YtiiolhnpnlmkjaaW.PrintLast Go.Proofs.YtiiolhnpnlmkjaaW.PrintMore Go.Proofs.Ytiiolhnpnlmkjaa.Rdr
def headR (b : List Int) (a : Nat) : Except (Int × Int) (Bool × Int) :=
  if b.length < a + 1 then .error (a, 160) else if 1 < numB b a 1 false % 256 then .error (a, 170) else if b.length < a + 1 + 4 then .error (((a + 1 : Nat) : Int), 160) else
    if numB b (a + 1) 4 (decide (numB b a 1 false % 256 = 1)) % 4294967296 < 1 ∨ 7 < numB b (a + 1) 4 (decide (numB b a 1 false % 256 = 1)) % 4294967296 then .error ((a : Int) + 1, 171) else
      .ok (decide (numB b a 1 false % 256 = 1), numB b (a + 1) 4 (decide (numB b a 1 false % 256 = 1)) % 4294967296)
def bodyR (b : List Int) (deep : Int) (n : Nat) (p : Nat) (level : Int) (le : Bool) (k : Int) : Except (Int × Int) (Ge × Nat × List Bool) :=
  if k = 1 then (placeR b p le).map fun l => (⟨k, l, [], []⟩, p + 16, [le])
  else if k = 2 then match countR b p le 16 with
    | .error e => .error e
    | .ok m => (pointsR b (p + 4) le m).map fun l => (⟨k, l, [], []⟩, p + 4 + 16 * m, [le])
  else if k = 3 then match countR b p le 20 with
    | .error e => .error e
    | .ok m => (ringsR b le m (p + 4)).map fun r => (⟨k, [], r.1, []⟩, r.2, [le])
  else match countR b p le (if k = 4 then 21 else 9) with
    | .error e => .error e
    | .ok m => (partsR (fun q => geomR b deep n q (level + 1) k) m (p + 4)).map fun r => (⟨k, [], [], r.1⟩, r.2.1, le :: r.2.2)
theorem geomR_eq (b : List Int) (deep : Int) (n a : Nat) (level home : Int) : geomR b deep (n + 1) a level home =
    match headR b a with
    | .error e => .error e
    | .ok h => if decide (home = 0 ∨ home = 7 ∨ h.2 = home - 3) = false then .error ((a : Int) + 1, 172) else if deep < level then .error (a, 191) else bodyR b deep n (a + 1 + 4) level h.1 h.2 := by
  rw [geomR]
  unfold headR
  by_cases h1 : b.length < a + 1
  · rw [if_pos h1, if_pos h1]
  rw [if_neg h1, if_neg h1]
  by_cases h2 : 1 < numB b a 1 false % 256
  · rw [if_pos h2, if_pos h2]
  rw [if_neg h2, if_neg h2]
  by_cases h3 : b.length < a + 1 + 4
  · rw [if_pos h3, if_pos h3]
  rw [if_neg h3, if_neg h3]
  generalize numB b (a + 1) 4 (decide (numB b a 1 false % 256 = 1)) % 4294967296 = k
  generalize decide (numB b a 1 false % 256 = 1) = le
  by_cases h4 : k < 1 ∨ 7 < k
  · rw [if_pos h4, if_pos h4]
  rw [if_neg h4, if_neg h4]
  rfl
structure Gd (x : It) : Prop where
  s : shapedB x = true
  f : finL (own x.f0) = true
  r : ∀ q ∈ own x.f0, (0 ≤ q.f0 ∧ q.f0 < 18446744073709551616) ∧ 0 ≤ q.f1 ∧ q.f1 < 18446744073709551616
def AllG (g : Ge) (lvl o : Int) : Prop := ∀ x ∈ nodes g lvl o, Gd x
theorem AllG.here {g : Ge} {lvl o : Int} (h : AllG g lvl o) : Gd ⟨g, lvl, o⟩ := h _ (by rw [nodes_eq]; exact List.mem_cons_self ..)
theorem part_nodes {g p : Ge} (lvl o : Int) (hp : p ∈ g.f3) {x : It} (hx : x ∈ nodes p (lvl + 1) g.f0) : x ∈ nodes g lvl o := by
  rw [nodes_eq]
  refine List.mem_cons_of_mem _ ?_
  rw [nodesL_flat]
  exact List.mem_flatten.2 ⟨_, List.mem_map.2 ⟨p, hp, rfl⟩, hx⟩
theorem AllG.part {g p : Ge} {lvl o : Int} (h : AllG g lvl o) (hp : p ∈ g.f3) : AllG p (lvl + 1) g.f0 := fun x hx => h x (part_nodes lvl o hp hx)
theorem shaped_all {g : Ge} {lvl o : Int} (h : shapedB ⟨g, lvl, o⟩ = true) : (1 ≤ g.f0 ∧ g.f0 ≤ 7) ∧ fitsB g.f0 o = true ∧ (2 < g.f0 → g.f1 = []) ∧ (g.f0 ≠ 3 → g.f2 = []) ∧ (g.f0 < 4 → g.f3 = []) ∧ (∀ r ∈ g.f2, r ≠ []) ∧ (g.f0 = 1 → g.f1.length ≤ 1) := by
  unfold shapedB kindB lacksB at h
  simp only [Bool.and_eq_true, Bool.or_eq_true, decide_eq_true_iff, Bool.not_eq_true', Bool.or_eq_false_iff, Bool.and_eq_false_iff, decide_eq_false_iff_not, List.all_eq_true] at h
  obtain ⟨hk, hf, ⟨h1, h2, h3⟩, hr, h4⟩ := h
  refine ⟨hk, hf, fun h => ?_, fun h => ?_, fun h => ?_, fun r hm e => ?_, fun h => ?_⟩
  · refine List.length_eq_zero_iff.1 ?_
    rcases h1 with h1 | h1 <;> omega
  · refine List.length_eq_zero_iff.1 ?_
    rcases h2 with h2 | h2
    · omega
    · exact absurd h h2
  · refine List.length_eq_zero_iff.1 ?_
    rcases h3 with h3 | h3 <;> omega
  · have := hr r hm
    subst e
    cases this
  · rcases h4 with h4 | h4
    · exact absurd h h4
    · exact h4
theorem fin_pt {q : Pt} {l : List Pt} (h : finL l = true) (hq : q ∈ l) : classOf q.f0 ≤ 2 ∧ classOf q.f1 ≤ 2 := by
  unfold finL finLC at h
  have := List.all_eq_true.1 h q hq
  unfold finC at this
  simp only [Bool.and_eq_true, decide_eq_true_iff] at this
  exact this
theorem nle3 {z : Int} (h : z ≤ 2) : ¬ 3 ≤ z := by omega
theorem n4 {z w : Int} (h : z ≤ 2) : ¬ (z = 4 ∧ w = 4) := by omega
theorem class_nan : classOf 9221120237041090560 = 4 := by kernel_rfl
def CutE {α : Type} (r : Except (Int × Int) α) (k : Nat) : Prop := ∃ p e : Int, r = .error (p, e) ∧ (e = 160 ∨ e = 173) ∧ 0 ≤ p ∧ p ≤ k
structure Two {α : Type} (r : Except (Int × Int) α) (v : α) (e k : Nat) : Prop where
  y : e ≤ k → r = .ok v
  n : k < e → CutE r k
theorem Two.map {α β : Type} {r : Except (Int × Int) α} {v : α} {e k : Nat} (h : Two r v e k) (f : α → β) : Two (r.map f) (f v) e k := by
  refine ⟨fun h1 => by rw [h.y h1]; rfl, fun h1 => ?_⟩
  obtain ⟨p, e, hr, hp⟩ := h.n h1
  exact ⟨p, e, by rw [hr]; rfl, hp⟩
def ptB (le : Bool) (q : Pt) : List Int := P64 [] q.f0 le ++ P64 [] q.f1 le
theorem ptB_eq (le : Bool) (q : Pt) : P64 (P64 [] q.f0 le) q.f1 le = ptB le q := P64_app _ _ _
theorem ptB_len (le : Bool) (q : Pt) : (ptB le q).length = 16 := by rw [ptB, List.length_append, P64_len, P64_len]; rfl
theorem ptsB_nil (le : Bool) : ptsB le [] = [] := rfl
theorem ptsB_cons (le : Bool) (q : Pt) (l : List Pt) : ptsB le (q :: l) = ptB le q ++ ptsB le l := by unfold ptsB; rw [List.flatMap_cons, ptB_eq]
def Rg (q : Pt) : Prop := (0 ≤ q.f0 ∧ q.f0 < 18446744073709551616) ∧ 0 ≤ q.f1 ∧ q.f1 < 18446744073709551616
theorem St.pt {b : List Int} {a : Nat} {le : Bool} {q : Pt} (h : St b a (ptB le q)) (hr : Rg q) : numB b a 8 le = q.f0 ∧ numB b (a + 8) 8 le = q.f1 := by
  have h2 := St.app h
  rw [P64_len] at h2
  exact ⟨h2.1.w64 hr.1.1 hr.1.2, St.w64 (a := a + 8) h2.2 hr.2.1 hr.2.2⟩
theorem rg_nan : Rg nanP := by
  refine ⟨⟨?_, ?_⟩, ?_, ?_⟩ <;> (unfold nanP; dsimp only; omega)
theorem class_nanP : classOf nanP.f0 = 4 ∧ classOf nanP.f1 = 4 := ⟨class_nan, class_nan⟩
section
variable {b c : List Int} {k : Nat}
theorem clen (hc : c = b.take k) (hk : k ≤ b.length) : c.length = k := by rw [hc, List.length_take]; omega
theorem count2 (hc : c = b.take k) (hk : k ≤ b.length) {a n least : Nat} {le : Bool} (h : St b a (P32 (u32 n) le)) (hn : n < 4294967296) (ha : a ≤ k) :
    (k < a + 4 → countR c a le least = .error (a, 160)) ∧ (a + 4 ≤ k → k < a + 4 + n * least → countR c a le least = .error (a, 173)) ∧ (a + 4 + n * least ≤ k → countR c a le least = .ok n) := by
  have hl := clen hc hk
  have hu : u32 (n : Int) = n := by unfold u32; rw [IntKind.wrap_u32]; omega
  have hw : a + 4 ≤ k → numB c a 4 le % 4294967296 = n := fun hq => by
    rw [hu] at h
    have h9 : St c a (P32 (n : Int) le) := by rw [hc]; exact h.cut (by rw [P32_len]; exact hq)
    rw [h9.w32 (by omega) (by omega)]
    omega
  unfold countR
  rw [hl]
  refine ⟨fun h1 => if_pos h1, fun h1 h2 => ?_, fun h1 => ?_⟩
  · rw [if_neg (by omega), hw h1, Int.toNat_natCast, if_pos h2]
  · rw [if_neg (by omega), hw (by omega), Int.toNat_natCast, if_neg (by omega)]
theorem place2 (hc : c = b.take k) (hk : k ≤ b.length) {a : Nat} {le : Bool} {l : List Pt} (hl1 : l.length ≤ 1) (h : St b a (if l.length = 0 then ptsB le [nanP] else ptsB le l)) (hf : finL l = true) (hr : ∀ q ∈ l, Rg q) (ha : a ≤ k) : Two (placeR c a le) l (a + 16) k := by
  have hl := clen hc hk
  refine ⟨fun h1 => ?_, fun h1 => ?_⟩
  · unfold placeR
    rw [hl, if_neg (by omega), if_neg (by omega)]
    match l, hl1 with
    | [], _ =>
      rw [if_pos (by rfl), ptsB_cons, ptsB_nil, List.append_nil] at h
      have h9 : St c a (ptB le nanP) := by rw [hc]; exact h.cut (by rw [ptB_len]; exact h1)
      obtain ⟨e1, e2⟩ := h9.pt rg_nan
      rw [e1, e2, if_pos class_nanP]
    | [q], _ =>
      rw [if_neg (by simp), ptsB_cons, ptsB_nil, List.append_nil] at h
      have h9 : St c a (ptB le q) := by rw [hc]; exact h.cut (by rw [ptB_len]; exact h1)
      obtain ⟨e1, e2⟩ := h9.pt (hr q (List.mem_singleton_self _))
      obtain ⟨c1, c2⟩ := fin_pt hf (List.mem_singleton_self q)
      rw [e1, e2, if_neg (n4 c1), if_neg (nle3 c1), if_neg (nle3 c2)]
  · unfold placeR
    rw [hl]
    by_cases h2 : k < a + 8
    · exact ⟨a, 160, if_pos h2, .inl rfl, by omega, by omega⟩
    · exact ⟨_, 160, by rw [if_neg h2, if_pos (by omega)], .inl rfl, by omega, by omega⟩
theorem bad_none {a : Nat} {le : Bool} : ∀ (m i : Nat), (∀ j, i ≤ j → j < i + m → classOf (numB c (a + 16 * j) 8 le) ≤ 2 ∧ classOf (numB c (a + 16 * j + 8) 8 le) ≤ 2) → badFrom c a le m i = none := by
  intro m
  induction m with
  | zero => intro i _; rfl
  | succ m ih =>
    intro i h
    have := h i (Nat.le_refl _) (by omega)
    rw [badFrom, if_neg (nle3 this.1), if_neg (nle3 this.2)]
    exact ih (i + 1) (fun j h1 h2 => h j (by omega) (by omega))
theorem St.pts {a : Nat} {le : Bool} : ∀ {l : List Pt} (i : Nat) (hi : i < l.length), St b a (ptsB le l) → St b (a + 16 * i) (ptB le l[i]) := by
  intro l
  induction l generalizing a with
  | nil => intro i hi; cases hi
  | cons q l ih =>
    intro i hi h
    rw [ptsB_cons] at h
    have h2 := h.app
    rw [ptB_len] at h2
    match i with
    | 0 => exact h2.1
    | i + 1 =>
      have := ih (a := a + 16) i (by simpa using hi) h2.2
      rw [show a + 16 * (i + 1) = a + 16 + 16 * i from by omega]
      simpa using this
theorem points_of {a : Nat} {le : Bool} {l : List Pt} (h : St c a (ptsB le l)) (hf : finL l = true) (hr : ∀ q ∈ l, Rg q) : pointsR c a le l.length = .ok l := by
  have hp : ∀ i (hi : i < l.length), numB c (a + 16 * i) 8 le = l[i].f0 ∧ numB c (a + 16 * i + 8) 8 le = l[i].f1 := fun i hi => St.pt (h.pts i hi) (hr _ (List.getElem_mem hi))
  unfold pointsR
  rw [bad_none l.length 0 (fun j _ hj => by
    have hj' : j < l.length := by omega
    rw [(hp j hj').1, (hp j hj').2]
    exact fin_pt hf (List.getElem_mem hj'))]
  show Except.ok (ptsAt c a le l.length) = .ok l
  congr 1
  unfold ptsAt
  refine List.ext_getElem (by simp) fun i h1 h2 => ?_
  simp only [List.getElem_map, List.getElem_range, ptAt]
  rw [(hp i h2).1, (hp i h2).2]
theorem ringB_len (le : Bool) (r : List Pt) : (ringB le r).length = 4 + 16 * r.length := by rw [ringB, List.length_append, P32_len, ptsB_len]
theorem ring2 (hc : c = b.take k) (hk : k ≤ b.length) {a : Nat} {le : Bool} {r : List Pt} (h0 : r ≠ []) (hn : r.length < 4294967296) (h : St b a (ringB le r)) (hf : finL r = true) (hr : ∀ q ∈ r, Rg q) (ha : a ≤ k) : Two (ringR c a le) r (a + (4 + 16 * r.length)) k := by
  have hl := clen hc hk
  have hu : u32 (r.length : Int) = r.length := by unfold u32; rw [IntKind.wrap_u32]; omega
  have h1 := St.app h
  rw [hu, P32_len] at h1
  have hw : a + 4 ≤ k → numB c a 4 le % 4294967296 = (r.length : Int) := fun hq => by
    have h9 : St c a (P32 (r.length : Int) le) := by rw [hc]; exact h1.1.cut (by rw [P32_len]; exact hq)
    rw [h9.w32 (by omega) (by omega)]
    omega
  have hp : 0 < r.length := List.length_pos_iff.2 h0
  refine ⟨fun h2 => ?_, fun h2 => ?_⟩
  · unfold ringR
    rw [hl, if_neg (by omega), hw (by omega), if_neg (by omega), Int.toNat_natCast, if_neg (by omega)]
    exact points_of (by rw [hc]; exact h1.2.cut (by rw [ptsB_len]; omega)) hf hr
  · unfold ringR
    rw [hl]
    by_cases h3 : k < a + 4
    · exact ⟨a, 160, if_pos h3, .inl rfl, by omega, by omega⟩
    · exact ⟨a, 173, by rw [if_neg h3, hw (by omega), if_neg (by omega), Int.toNat_natCast, if_pos (by omega)], .inr rfl, by omega, by omega⟩
theorem ringsB_cons (le : Bool) (r : List Pt) (l : List (List Pt)) : ringsB le (r :: l) = ringB le r ++ ringsB le l := by unfold ringsB; rw [List.flatMap_cons]
theorem rings2 (hc : c = b.take k) (hk : k ≤ b.length) {le : Bool} : ∀ (l : List (List Pt)) (a : Nat), (∀ r ∈ l, r ≠ [] ∧ r.length < 4294967296 ∧ finL r = true ∧ ∀ q ∈ r, Rg q) → St b a (ringsB le l) → a ≤ k → Two (ringsR c le l.length a) (l, a + (ringsB le l).length) (a + (ringsB le l).length) k := by
  intro l
  induction l with
  | nil =>
    intro a _ _ ha
    exact ⟨fun _ => rfl, fun h => absurd h (by show ¬ k < a + 0; omega)⟩
  | cons r l ih =>
    intro a hr h ha
    rw [ringsB_cons] at h ⊢
    have h1 := h.app
    obtain ⟨h0, hn, hf, hg⟩ := hr r List.mem_cons_self
    have h2 := ring2 hc hk h0 hn h1.1 hf hg ha
    rw [List.length_cons, List.length_append, ringB_len]
    rw [ringB_len] at h1
    by_cases h3 : a + (4 + 16 * r.length) ≤ k
    · have h4 := ih (a + (4 + 16 * r.length)) (fun r' hr' => hr r' (List.mem_cons_of_mem _ hr')) h1.2 h3
      have e : ringsR c le (l.length + 1) a = (ringsR c le l.length (a + (4 + 16 * r.length))).map fun x => (r :: x.1, x.2) := by
        rw [ringsR, h2.y h3]
        rw [← Nat.add_assoc]
      rw [e, show a + (4 + 16 * r.length + (ringsB le l).length) = a + (4 + 16 * r.length) + (ringsB le l).length from by omega]
      exact h4.map (fun x => (r :: x.1, x.2))
    · refine ⟨fun h => by omega, fun _ => ?_⟩
      obtain ⟨p, e, he, hp⟩ := h2.n (by omega)
      exact ⟨p, e, by rw [ringsR, he], hp⟩
end
def ords (os : List Bool) : Nat → Nat → List Bool
  | _, 0 => []
  | n, m + 1 => ordAt os n :: ords os (n + 1) m
theorem ords_add (os : List Bool) (m m' : Nat) : ∀ n, ords os n (m + m') = ords os n m ++ ords os (n + m) m' := by
  induction m with
  | zero => intro n; simp [ords]
  | succ m ih =>
    intro n
    rw [show m + 1 + m' = (m + m') + 1 from by omega, ords, ords, ih, List.cons_append, show n + 1 + m = n + (m + 1) from by omega]
theorem ords_len (os : List Bool) : ∀ (m n : Nat), (ords os n m).length = m := by
  intro m
  induction m with
  | zero => intro n; rfl
  | succ m ih => intro n; rw [ords, List.length_cons, ih]
def HomeOk (o : Int) : Prop := o = 0 ∨ (4 ≤ o ∧ o ≤ 7)
theorem home_fits {k o : Int} (hk : 1 ≤ k ∧ k ≤ 7) (ho : HomeOk o) : decide (o = 0 ∨ o = 7 ∨ k = o - 3) = fitsB k o := by
  unfold fitsB
  unfold HomeOk at ho
  split
  · rename_i h
    rw [Bool.eq_iff_iff, decide_eq_true_iff, decide_eq_true_iff]
    omega
  · rename_i h
    rw [decide_eq_true_iff]
    omega
theorem head_of {c : List Int} {a : Nat} {le : Bool} {k : Int} (h : St c a (bitB le ++ P32 (u32 k) le)) (ha : a ≤ c.length) (hk : 1 ≤ k ∧ k ≤ 7) : headR c a = .ok (le, k) := by
  have hu : u32 k = k := by unfold u32; rw [IntKind.wrap_u32]; omega
  rw [hu] at h
  have hl := h.le ha
  rw [List.length_append, P32_len] at hl
  have h1 := h.app
  have hb : (bitB le).length = 1 := rfl
  rw [hb] at hl h1
  have e1 : numB c a 1 false = if le = true then 1 else 0 := by
    have h2 := h1.1
    unfold bitB at h2
    rw [h2.w8 (by cases le <;> decide) (by cases le <;> decide)]
  have e2 : decide (numB c a 1 false % 256 = 1) = le := by rw [e1]; cases le <;> decide
  have e3 : numB c (a + 1) 4 le = k := h1.2.w32 (by omega) (by omega)
  unfold headR
  rw [if_neg (by omega), if_neg (by rw [e1]; cases le <;> decide), if_neg (by omega), e2, e3, if_neg (by omega), show k % 4294967296 = k from by omega]
theorem head2 {b c : List Int} {k a : Nat} (hc : c = b.take k) (hk : k ≤ b.length) {le : Bool} {kd : Int} (h : St b a (bitB le ++ P32 (u32 kd) le)) (hkd : 1 ≤ kd ∧ kd ≤ 7) (ha : a ≤ k) : Two (headR c a) (le, kd) (a + 5) k := by
  have hl := clen hc hk
  have h5 : (bitB le ++ P32 (u32 kd) le).length = 5 := by rw [List.length_append, P32_len]; rfl
  refine ⟨fun h1 => head_of (by rw [hc]; exact h.cut (by rw [h5]; exact h1)) (by omega) hkd, fun h1 => ?_⟩
  unfold headR
  rw [hl]
  by_cases h2 : k < a + 1
  · exact ⟨a, 160, if_pos h2, .inl rfl, by omega, by omega⟩
  · have h3 : St c a (bitB le) := by rw [hc]; exact h.app.1.cut (by show a + 1 ≤ k; omega)
    have e1 : numB c a 1 false = if le = true then 1 else 0 := by
      unfold bitB at h3
      rw [h3.w8 (by cases le <;> decide) (by cases le <;> decide)]
    exact ⟨_, 160, by rw [if_neg h2, if_neg (by rw [e1]; cases le <;> decide), if_pos (by omega)], .inl rfl, by omega, by omega⟩
theorem geoB_head (os : List Bool) (g : Ge) (n : Nat) : ∃ X, geoB os g n = (bitB (ordAt os n) ++ P32 (u32 g.f0) (ordAt os n)) ++ X ∧ X = (if g.f0 = 1 then (if g.f1.length = 0 then ptsB (ordAt os n) [nanP] else ptsB (ordAt os n) g.f1)
       else if g.f0 = 2 then P32 (u32 g.f1.length) (ordAt os n) ++ ptsB (ordAt os n) g.f1
       else if g.f0 = 3 then P32 (u32 g.f2.length) (ordAt os n) ++ ringsB (ordAt os n) g.f2
       else P32 (u32 g.f3.length) (ordAt os n) ++ partsB os g.f3 (n + 1)) := ⟨_, by rw [geoB_eq, List.append_assoc], rfl⟩
theorem geoB_ge (os : List Bool) (g : Ge) (n : Nat) : 9 ≤ (geoB os g n).length ∧ (g.f0 = 1 → g.f1.length ≤ 1 → (geoB os g n).length = 21) := by
  rw [geoB_eq, List.length_append, List.length_append, P32_len, show (bitB (ordAt os n)).length = 1 from rfl]
  by_cases h1 : g.f0 = 1
  · rw [if_pos h1]
    by_cases h2 : g.f1.length = 0
    · rw [if_pos h2, ptsB_len]
      exact ⟨by simp, fun _ _ => by simp⟩
    · rw [if_neg h2, ptsB_len]
      exact ⟨by omega, fun _ _ => by omega⟩
  · rw [if_neg h1]
    refine ⟨?_, fun h => absurd h h1⟩
    split
    · rw [List.length_append, P32_len]; omega
    · split
      · rw [List.length_append, P32_len]; omega
      · rw [List.length_append, P32_len]; omega
theorem parts_ge (os : List Bool) (m : Nat) : ∀ (l : List Ge) (n : Nat), (∀ p ∈ l, ∀ n, m ≤ (geoB os p n).length) → l.length * m ≤ (partsB os l n).length := by
  intro l
  induction l with
  | nil => intro n _; simp
  | cons p l ih =>
    intro n h
    rw [partsB, List.length_append, List.length_cons, Nat.add_mul]
    have h1 := h p List.mem_cons_self n
    have h2 := ih (n + cntG p) (fun q hq => h q (List.mem_cons_of_mem _ hq))
    omega
theorem parts2 {b : List Int} {k : Nat} (os : List Bool) (f : Nat → Except (Int × Int) (Ge × Nat × List Bool)) : ∀ (l : List Ge) (n a : Nat),
    (∀ p ∈ l, ∀ n a, St b a (geoB os p n) → a ≤ k → Two (f a) (p, a + (geoB os p n).length, ords os n (cntG p)) (a + (geoB os p n).length) k) → St b a (partsB os l n) → a ≤ k →
    Two (partsR f l.length a) (l, a + (partsB os l n).length, ords os n (cntL l)) (a + (partsB os l n).length) k := by
  intro l
  induction l with
  | nil =>
    intro n a _ _ ha
    exact ⟨fun _ => by simp [partsR, partsB, cntL, ords], fun h => absurd h (by simp [partsB]; omega)⟩
  | cons p l ih =>
    intro n a hp h ha
    rw [partsB] at h ⊢
    have h1 := h.app
    have h2 := hp p List.mem_cons_self n a h1.1 ha
    rw [List.length_cons, List.length_append]
    by_cases h3 : a + (geoB os p n).length ≤ k
    · have h4 := ih (n + cntG p) (a + (geoB os p n).length) (fun q hq => hp q (List.mem_cons_of_mem _ hq)) h1.2 h3
      have e : partsR f (l.length + 1) a = (partsR f l.length (a + (geoB os p n).length)).map fun r => (p :: r.1, r.2.1, ords os n (cntG p) ++ r.2.2) := by
        rw [partsR, h2.y h3]
      rw [e, ← Nat.add_assoc, cntL, ords_add]
      exact h4.map (fun r => (p :: r.1, r.2.1, ords os n (cntG p) ++ r.2.2))
    · refine ⟨fun h => by omega, fun _ => ?_⟩
      obtain ⟨q, e, he, hq⟩ := h2.n (by omega)
      exact ⟨q, e, by rw [partsR, he], hq⟩
theorem ords_one (os : List Bool) (n : Nat) : ords os n 1 = [ordAt os n] := rfl
theorem ge_mk (g : Ge) : g = ⟨g.f0, g.f1, g.f2, g.f3⟩ := by cases g; rfl
theorem rings_ge (le : Bool) (l : List (List Pt)) (h : ∀ r ∈ l, r ≠ []) : l.length * 20 ≤ (ringsB le l).length := by
  induction l with
  | nil => simp
  | cons r l ih =>
    rw [ringsB_cons, List.length_append, ringB_len, List.length_cons]
    have h1 := ih (fun r hr => h r (List.mem_cons_of_mem _ hr))
    have h2 := List.length_pos_iff.2 (h r List.mem_cons_self)
    omega
theorem flat_le {α : Type} {r : List α} {l : List (List α)} (h : r ∈ l) : r.length ≤ l.flatten.length := by
  induction l with
  | nil => cases h
  | cons x l ih =>
    rw [List.flatten_cons, List.length_append]
    rcases List.mem_cons.1 h with rfl | h
    · omega
    · have := ih h
      omega
theorem count_then {b c : List Int} {k : Nat} (hc : c = b.take k) (hk : k ≤ b.length) {a n least e : Nat} {le : Bool} (h : St b a (P32 (u32 n) le)) (hn : n < 4294967296) (ha : a ≤ k) {α : Type} (F : Nat → Except (Int × Int) α) (v : α) (he : a + 4 + n * least ≤ e) (hF : a + 4 + n * least ≤ k → Two (F n) v e k) :
    Two (match countR c a le least with | .error x => .error x | .ok m => F m) v e k := by
  obtain ⟨c1, c2, c3⟩ := count2 hc hk (least := least) h hn ha
  by_cases h1 : k < a + 4
  · rw [c1 h1]
    exact ⟨fun h => by omega, fun _ => ⟨a, 160, rfl, .inl rfl, by omega, by omega⟩⟩
  by_cases h2 : k < a + 4 + n * least
  · rw [c2 (by omega) h2]
    exact ⟨fun h => by omega, fun _ => ⟨a, 173, rfl, .inr rfl, by omega, by omega⟩⟩
  rw [c3 (by omega)]
  exact hF (by omega)
theorem Two.to {α : Type} {r : Except (Int × Int) α} {v v' : α} {e e' k : Nat} (h : Two r v e k) (hv : v = v') (he : e = e') : Two r v' e' k := by
  subst hv he
  exact h
theorem geom2 {b c : List Int} {k : Nat} (hc : c = b.take k) (hk : k ≤ b.length) (os : List Bool) (deep : Int) (m : Nat) : ∀ (g : Ge) (lvl o : Int) (n a fuel : Nat), g.bulk ≤ m → g.bulk < 4294967296 → AllG g lvl o → (∀ x ∈ nodes g lvl o, x.f1 ≤ deep) →
    deep + 2 ≤ fuel + lvl → HomeOk o → St b a (geoB os g n) → a ≤ k → Two (geomR c deep fuel a lvl o) (g, a + (geoB os g n).length, ords os n (cntG g)) (a + (geoB os g n).length) k := by
  induction m with
  | zero => intro g _ _ _ _ _ h; have := g.bulk_eq; omega
  | succ m ih =>
    intro g lvl o n a fuel hm hbk hG hd hfu ho h ha
    have hlv : lvl ≤ deep := hd _ (by rw [nodes_eq]; exact List.mem_cons_self ..)
    obtain ⟨fu, rfl⟩ : ∃ fu, fuel = fu + 1 := ⟨fuel - 1, by omega⟩
    obtain ⟨hkd, hfit, s1, s2, s3, s4, s5⟩ := shaped_all hG.here.s
    have hfin : finL (own g) = true := hG.here.f
    have hrg : ∀ q ∈ own g, Rg q := hG.here.r
    rw [finL_own, Bool.and_eq_true, List.all_eq_true] at hfin
    obtain ⟨X, hX, eX⟩ := geoB_head os g n
    have hge := geoB_ge os g n
    obtain ⟨le, hle⟩ : ∃ le, le = ordAt os n := ⟨_, rfl⟩
    have hon : ords os n 1 = [le] := by rw [ords_one, hle]
    have hor : ∀ j, ords os n (1 + j) = le :: ords os (n + 1) j := fun j => by rw [ords_add, hon]; rfl
    rw [← hle] at hX eX
    rw [hX] at h hge ⊢
    have h1 := h.app
    have h5 : (bitB le ++ P32 (u32 g.f0) le).length = 5 := by rw [List.length_append, P32_len]; rfl
    rw [h5] at h1
    rw [List.length_append, h5] at hge ⊢
    have hh := head2 hc hk h1.1 hkd ha
    rw [geomR_eq]
    by_cases h6 : a + 5 ≤ k
    rotate_left
    · refine ⟨fun h => by omega, fun _ => ?_⟩
      obtain ⟨p, e, he, hp⟩ := hh.n (by omega)
      exact ⟨p, e, by rw [he], hp⟩
    rw [hh.y h6]
    dsimp only
    rw [home_fits hkd ho, hfit, if_neg (by decide), if_neg (by omega), show a + 1 + 4 = a + 5 from rfl]
    unfold bodyR
    have hbe := g.bulk_eq
    have hcn := cntG_eq g
    by_cases k1 : g.f0 = 1
    · rw [if_pos k1]
      rw [if_pos k1] at eX
      have e16 : X.length = 16 := by have := hge.2 k1 (s5 k1); omega
      have h1b := h1.2
      rw [eX] at h1b
      refine ((place2 hc hk (s5 k1) h1b hfin.1 (fun q hq => hrg q (by unfold own; exact List.mem_append_left _ hq)) h6).map fun l => ((⟨g.f0, l, [], []⟩ : Ge), a + 5 + 16, [le])).to ?_ (by omega)
      rw [hcn, if_pos (.inl k1), hon, e16, show (⟨g.f0, g.f1, [], []⟩ : Ge) = g from by rw [ge_mk g, ← s2 (by omega), ← s3 (by omega)]]
    rw [if_neg k1] at eX ⊢
    by_cases k2 : g.f0 = 2
    · rw [if_pos k2] at eX ⊢
      have h1b := h1.2
      rw [eX] at h1b ⊢
      have h7 := h1b.app
      rw [P32_len] at h7
      rw [List.length_append, P32_len, ptsB_len]
      refine count_then hc hk h7.1 (by omega) h6 _ _ (by omega) (fun h8 => ⟨fun _ => ?_, fun h => by omega⟩)
      rw [points_of (by rw [hc]; exact h7.2.cut (by rw [ptsB_len]; omega)) hfin.1 (fun q hq => hrg q (by unfold own; exact List.mem_append_left _ hq))]
      rw [hcn, if_pos (.inr (.inl k2)), hon, show a + (5 + (4 + 16 * g.f1.length)) = a + 5 + 4 + 16 * g.f1.length from by omega]
      show Except.ok ((⟨g.f0, g.f1, [], []⟩ : Ge), a + 5 + 4 + 16 * g.f1.length, [le]) = _
      rw [show (⟨g.f0, g.f1, [], []⟩ : Ge) = g from by rw [ge_mk g, ← s2 (by omega), ← s3 (by omega)]]
    rw [if_neg k2] at eX ⊢
    by_cases k3 : g.f0 = 3
    · rw [if_pos k3] at eX ⊢
      have h1b := h1.2
      rw [eX] at h1b ⊢
      have h7 := h1b.app
      rw [P32_len] at h7
      rw [List.length_append, P32_len]
      have h20 := rings_ge le g.f2 s4
      refine count_then hc hk h7.1 (by omega) h6 _ _ (by omega) (fun h8 => ?_)
      refine ((rings2 hc hk g.f2 (a + 5 + 4) (fun r hr => ⟨s4 r hr, ?_, hfin.2 r hr, fun q hq => hrg q ?_⟩) h7.2 (by omega)).map fun r => ((⟨g.f0, [], r.1, []⟩ : Ge), r.2, [le])).to ?_ (by omega)
      · have := flat_le hr
        omega
      · unfold own
        exact List.mem_append_right _ (List.mem_flatten.2 ⟨r, hr, hq⟩)
      · dsimp only
        rw [hcn, if_pos (.inr (.inr k3)), hon, show (⟨g.f0, [], g.f2, []⟩ : Ge) = g from by rw [ge_mk g, ← s1 (by omega), ← s3 (by omega)]]
        congr 2
        omega
    rw [if_neg k3] at eX ⊢
    have h1b := h1.2
    rw [eX] at h1b ⊢
    have h7 := h1b.app
    rw [P32_len] at h7
    rw [List.length_append, P32_len]
    have hl3 := bulks_len g.f3
    have hg9 : g.f3.length * (if g.f0 = 4 then 21 else 9) ≤ (partsB os g.f3 (n + 1)).length := by
      refine parts_ge os _ g.f3 (n + 1) (fun p hp n => ?_)
      have h9 := geoB_ge os p n
      have hpS := shaped_all (hG.part hp).here.s
      split
      · rename_i k4
        have hf : fitsB p.f0 g.f0 = true := hpS.2.1
        unfold fitsB at hf
        rw [if_pos (.inl k4), decide_eq_true_iff] at hf
        have hp1 : p.f0 = 1 := by omega
        have := h9.2 hp1 (hpS.2.2.2.2.2.2 hp1)
        omega
      · exact h9.1
    refine count_then hc hk h7.1 (by omega) h6 _ _ (by omega) (fun h8 => ?_)
    refine ((parts2 os (fun q => geomR c deep fu q (lvl + 1) g.f0) g.f3 (n + 1) (a + 5 + 4) (fun p hp n a hst hak => ?_) h7.2 (by omega)).map fun r => ((⟨g.f0, [], [], r.1⟩ : Ge), r.2.1, le :: r.2.2)).to ?_ (by omega)
    · have hpb := bulks_mem hp
      exact ih p (lvl + 1) g.f0 n a fu (by omega) (by omega) (hG.part hp) (fun x hx => hd x (part_nodes lvl o hp hx)) (by omega) (.inr (by omega)) hst hak
    · dsimp only
      rw [hcn, if_neg (by omega), hor, show (⟨g.f0, [], [], g.f3⟩ : Ge) = g from by rw [ge_mk g, ← s1 (by omega), ← s2 (by omega)]]
      congr 2
      omega
end Go.Proofs.Ytiiolhnpnlmkjaa.Tree
