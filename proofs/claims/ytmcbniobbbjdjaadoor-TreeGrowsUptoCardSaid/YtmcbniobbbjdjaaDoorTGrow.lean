/- Grow by contract. No conditions but those told. -/
import Derived.Test.YtmcbniobbbjdjaaDoorTNext
import Derived.Test.YtmcbniobbbjdjaaDoorTWrap
import Derived.Test.YtmcbniobbbjdjaaDoorTEqNodes
namespace Go.Proofs.YtmcbniobbbjdjaaDoor.Tree
open Go.RowKit Go.Proofs.YtmcbniobbbjdjaaDoorW.PrintWords Go.Proofs.YtmcbniobbbjdjaaDoorW.PrintLast Go.Proofs.YtmcbniobbbjdjaaDoorW.PrintMore
set_option linter.unusedVariables false
set_option linter.unusedSimpArgs false
attribute [local go_sem] min2_int min_two
/-- What Grow answers. -/
def GrowRes (w w' : World) (l : List Nd) (u ev : Value) : Prop := match growE 1 0 l with
  | some i => u = noGe ∧ ErrV w' ev (some ((i : Int), 154))
  | none => ∃ g, flatN g = l ∧ Canon g ∧ match checkR g with
    | some e => u = noGe ∧ ErrV w' ev (some e)
    | none => CopyOf g.bulk w w' u g ∧ ev = .nilIface
theorem GrowRes.bad {w w' : World} {l : List Nd} {u ev : Value} {i : Nat} (h : growE 1 0 l = some i) (hu : u = noGe) (he : ErrV w' ev (some ((i : Int), 154))) : GrowRes w w' l u ev := by unfold GrowRes; rw [h]; exact ⟨hu, he⟩
/-- The number that Grow keeps, and the true one. -/
structure NS (L k : Nat) (n : Int) (nE : Nat) : Prop where
  n0 : 0 ≤ n
  n1 : n ≤ (L : Int) + 1
  le : n ≤ (nE : Int)
  or_ : n = (nE : Int) ∨ (L : Int) + 1 - (k : Int) ≤ n
theorem NS.next {L k nE a : Nat} {n : Int} (h : NS L k n (nE + 1)) (hn : 0 < n) : NS L (k + 1) (min (n - 1 + min (a : Int) ((L : Int) + 1)) ((L : Int) + 1)) (nE + a) := by
  obtain ⟨h0, h1, h2, h3⟩ := h
  refine ⟨by omega, by omega, by omega, ?_⟩
  rcases h3 with h3 | h3 <;> omega
theorem NS.plain {L k nE : Nat} {n : Int} (h : NS L k n (nE + 1)) (hn : 0 < n) : NS L (k + 1) (n - 1) nE := by
  obtain ⟨h0, h1, h2, h3⟩ := h
  refine ⟨by omega, by omega, by omega, ?_⟩
  rcases h3 with h3 | h3 <;> omega
theorem NS.of_eq {L k nE : Nat} {n n' : Int} (h : NS L k n nE) (e : n = n') : NS L k n' nE := e ▸ h
theorem sound_many {x : Nd} (h : soundB x = true) (h3 : 3 < x.f0) : ∃ a : Nat, x.f1 = [(a : Int)] ∧ arity x = a := by
  unfold soundB at h
  simp only [Bool.and_eq_true, Bool.or_eq_true, decide_eq_true_iff] at h
  obtain ⟨_, h1, h2⟩ := h
  have hlen : x.f1.length = 1 := h1.resolve_left (by omega)
  cases hx : x.f1 with
  | nil => rw [hx] at hlen; cases hlen
  | cons a t =>
    rw [hx] at hlen h2
    cases t with
    | cons b t => simp at hlen
    | nil =>
      rw [decide_eq_false (show ¬ x.f0 ≤ 3 by omega)] at h2
      have ha : ¬ a < 0 := fun hn => by rw [soundL_neg hn] at h2; cases h2
      refine ⟨a.toNat, by rw [Int.toNat_of_nonneg (by omega)], ?_⟩
      unfold arity
      rw [if_pos h3, hx]
      rfl
theorem sound_few {x : Nd} (h3 : ¬ 3 < x.f0) : arity x = 0 := by unfold arity; rw [if_neg h3]
theorem ErrV.farG {w : World} {v u : Value} {x : Option (Int × Int)} (h : ErrV w v x) {b j : Nat} {cs : Array Value} (hk : w.heap[b]? = some (.cells cs 26 (0, 0))) : ErrV (w.setCell ⟨b, j, none⟩ u) v x := by
  rcases x with _ | ⟨a, c⟩
  · exact h
  · obtain ⟨g, e, h⟩ := h
    exact ⟨g, e, blk_far h (p := ⟨b, j, none⟩) (blk_ne h hk (by decide)) _⟩
set_option maxRecDepth 100000 in
set_option maxHeartbeats 16000000 in
theorem grow_calls (A : Option Addr) (c : Nat) (l : List Nd) (w : World) (hC : Kd.C kNd w A l.length l) (hcap : l.length ≤ c) (hW : ndsW l ≤ 2097152) :
    Calls Tryd.prog 18 #[.slice A l.length c] w fun e w' => ∃ u ev, e = .returned (.tuple #[u, ev]) ∧ GrowRes w w' l u ev ∧ Below w.heap.size w w' := by
  have HC := Aside0.mk hC
  have HM := Aside0.mk (show ∀ x ∈ l, x.f1.length ≤ 1073741824 ∧ x.f2.length ≤ 1073741824 by
    intro x hx
    have h : ndW x ≤ ndsW l := by
      clear hC hcap hW HC
      induction l with
      | nil => cases hx
      | cons y l ih =>
        rw [ndsW_cons]
        rcases List.mem_cons.1 hx with rfl | hx
        · omega
        · have := ih hx; omega
    unfold ndW at h
    omega)
  have hl : l.length ≤ 2097152 := by
    have h : l.length ≤ ndsW l := by
      clear hC hcap hW HC HM
      induction l with
      | nil => simp
      | cons y l ih => rw [ndsW_cons, List.length_cons]; unfold ndW; omega
    omega
  clear hC
  have hu := Tryd.underlying26
  have hun := Tryd.underlying54
  have hmx : Tryd.prog.follows .mixedOrders = true := by kernel_rfl
  go_enter Tryd.func18, Tryd.ntmps18
  go_wp2_with fail
  obtain ⟨gr, hgr⟩ : ∃ y, y = w.heap.size := ⟨_, rfl⟩
  obtain ⟨W0, hW0⟩ : ∃ y, y = w.alloc (.cells #[.int .i64 0, .slice none 0 0, .slice none 0 0, .slice none 0 0] 26) := ⟨_, rfl⟩
  rw [← hW0, ← hgr]
  have KR0 := Aside0.mk (show W0.heap[gr]? = some (.cells #[.int .i64 0, .slice none 0 0, .slice none 0 0, .slice none 0 0] 26 (0, 0)) by rw [hW0, hgr]; exact World.alloc_heap_new _ _)
  have HB0 := Aside0.mk (show Below w.heap.size w W0 by rw [hW0]; exact below_alloc (Below.refl _ _) _)
  have HGR := Aside0.mk (show w.heap.size ≤ gr by omega)
  clear hW0 hgr
  go_loopg [4, 12] l.length (fun kq n i wr => ∃ (k nE : Nat) (nS : Int), k + kq = l.length ∧ i = .int .i64 (k : Int) ∧ n = .int .i64 nS ∧ Aside0 (NS l.length k nS nE) ∧ Aside0 (growE 1 0 l = growE nE k (l.drop k)) ∧ Aside0 (wr.heap[gr]? = some (.cells #[.int .i64 0, .slice none 0 0, .slice none 0 0, .slice none 0 0] 26 (0, 0))) ∧ Aside0 (Below w.heap.size w wr))
  case atStart => exact ⟨0, 1, 1, by omega, rfl, rfl, ⟨⟨by omega, by omega, by omega, .inl rfl⟩⟩, ⟨rfl⟩, KR0, HB0⟩
  case round =>
    clear KR0 HB0
    obtain ⟨k, nE, nS, hk, rfl, rfl, HNS, HGE, KR, HB⟩ := hrel
    obtain ⟨hn0, hn1, _, _⟩ := HNS.out
    cases gk with
    | zero =>
      have hlt : ¬ ((k : Int) < (l.length : Int)) := by omega
      obtain rfl : k = l.length := by omega
      rw [List.drop_length] at HGE
      by_cases e0 : 0 < nS
      · have hE : nE = nE - 1 + 1 := by have := HNS.out.le; omega
        have HBAD := Aside0.mk (show growE 1 0 l = some l.length by rw [HGE.out, hE]; rfl)
        clear hE
        go_wp2_with fail
        refine (wrap_calls (l.length : Int) 154 wr).mono ?_
        rintro e w5 ⟨ve, rfl, hev, hb5⟩
        have HEV := Aside0.mk hev
        have KR5 := Aside0.mk (blk_below KR.out hb5)
        have HB5 := Aside0.mk (below_step HB.out hb5)
        clear hev hb5
        have r0 : w5.cell? ⟨gr, 0, none⟩ = some (.int .i64 0) := (blk_cell KR5.out 0).trans rfl
        have t0 := blk_frozen KR5.out 0
        have r1 : w5.cell? ⟨gr, 1, none⟩ = some (.slice none 0 0) := (blk_cell KR5.out 1).trans rfl
        have t1 := blk_frozen KR5.out 1
        have r2 : w5.cell? ⟨gr, 2, none⟩ = some (.slice none 0 0) := (blk_cell KR5.out 2).trans rfl
        have t2 := blk_frozen KR5.out 2
        have r3 : w5.cell? ⟨gr, 3, none⟩ = some (.slice none 0 0) := (blk_cell KR5.out 3).trans rfl
        have t3 := blk_frozen KR5.out 3
        go_wp2_with fail
        have bk := (blk_set (blk_set (blk_set (blk_set KR5.out 0 (.int .i64 0)) 1 (.slice none 0 0)) 2 (.slice none 0 0)) 3 (.slice none 0 0))
        refine bodyPost_ret (results_geom2 (a := 2) (c := 3) (by rfl) _ _ (by rfl) (by simpa using bk)) rfl ?_
        refine ⟨_, _, rfl, .bad (i := l.length) HBAD.out rfl ?_, ((((HB5.out.setCell (p := ⟨gr, 0, none⟩) HGR.out _).setCell (p := ⟨gr, 1, none⟩) HGR.out _).setCell (p := ⟨gr, 2, none⟩) HGR.out _).setCell (p := ⟨gr, 3, none⟩) HGR.out _)⟩
        exact (ErrV.farG (ErrV.farG (ErrV.farG (ErrV.farG HEV.out (j := 0) (u := .int .i64 0) KR5.out) (j := 1) (u := .slice none 0 0) (blk_set KR5.out 0 (.int .i64 0))) (j := 2) (u := .slice none 0 0) (blk_set (blk_set KR5.out 0 (.int .i64 0)) 1 (.slice none 0 0))) (j := 3) (u := .slice none 0 0) (blk_set (blk_set (blk_set KR5.out 0 (.int .i64 0)) 1 (.slice none 0 0)) 2 (.slice none 0 0)))
      · have e1 : nE = 0 := by
          have h := HNS.out.or_
          omega
        have hOK : growE 1 0 l = none := by rw [HGE.out, e1]; rfl
        obtain ⟨g, hg, hcn⟩ := growE_tree hOK
        have HOK := Aside0.mk hOK
        have HCN := Aside0.mk hcn
        have HFL := Aside0.mk hg
        have hbk : g.bulk ≤ 2097152 := by have h := canon_W hcn; rw [hg] at h; omega
        clear e1 hOK hcn hg
        have hug := Tryd.underlying84
        go_upto_region 14 with fail
        obtain ⟨gw, hgw⟩ : ∃ y, y = wr.heap.size := ⟨_, rfl⟩
        obtain ⟨Wg, hWg⟩ : ∃ y, y = wr.alloc (.cells #[.slice A l.length c] 84) := ⟨_, rfl⟩
        rw [← hWg, ← hgw]
        have kw : Wg.heap[gw]? = some (.cells #[.slice A l.length c] 84 (0, 0)) := by rw [hWg, hgw]; exact World.alloc_heap_new _ _
        have hbw : Below wr.heap.size wr Wg := by rw [hWg]; exact below_alloc (Below.refl _ _) _
        have KW := Aside0.mk kw
        have KRW := Aside0.mk (blk_below KR.out hbw)
        have HBW := Aside0.mk (below_step HB.out hbw)
        have HGG := Aside0.mk (show gr < gw ∧ w.heap.size ≤ gw by have h := blk_lt KR.out; have h2 := HB.out.size; omega)
        clear hWg hgw kw hbw KR HB
        go_wp2_with fail
        refine (next_calls g.bulk g w Wg gw l.length c A [] HCN.out (Nat.le_refl _) (by omega) HBW.out HGG.out.2 KW.out (by rw [List.append_nil, HFL.out]) hcap (by omega) (by rw [List.append_nil, HFL.out]; exact HC.out)).mono ?_
        rintro e w4 ⟨u, rfl, hcp, A2, c2, hx2, hc2, hC2, hKB, hB4⟩
        obtain ⟨cs, rfl, hM⟩ := hcp
        obtain ⟨E1, e1, E2, e2, E3, e3, rfl, _⟩ := kGe_open (kSp_K _ ((kSp _).K_of_M hM))
        have hgr4 : gr ≠ gw := by have := HGG.out; omega
        have hk4 := blk_KB hKB KRW.out hgr4
        have HM4 := Aside0.mk hM
        have HWG := Aside0.mk (show gr < Wg.heap.size ∧ w.heap.size ≤ Wg.heap.size from ⟨blk_lt KRW.out, HBW.out.size⟩)
        have KR4 := Aside0.mk hk4
        have HB4 := Aside0.mk hB4
        clear hM hx2 hc2 hC2 hKB hB4 hgr4 hk4 KRW HBW KW A2 c2
        go_upto_region 15 with fail
        obtain ⟨gb, hgb⟩ : ∃ y, y = w4.heap.size := ⟨_, rfl⟩
        obtain ⟨Wb, hWb⟩ : ∃ y, y = w4.alloc (.cells #[.int .i64 g.f0, .slice E1 g.f1.length e1, .slice E2 g.f2.length e2, .slice E3 g.f3.length e3] 26) := ⟨_, rfl⟩
        rw [← hWb, ← hgb]
        have kb : Wb.heap[gb]? = some (.cells #[.int .i64 g.f0, .slice E1 g.f1.length e1, .slice E2 g.f2.length e2, .slice E3 g.f3.length e3] 26 (0, 0)) := by rw [hWb, hgb]; exact World.alloc_heap_new _ _
        have hbb : Below w4.heap.size w4 Wb := by rw [hWb]; exact below_alloc (Below.refl _ _) _
        have KB4 := Aside0.mk kb
        have KRB := Aside0.mk (blk_below KR4.out hbb)
        have HBB := Aside0.mk (below_step HB4.out hbb)
        have HMB := Aside0.mk (Kd.M_below HM4.out hbb)
        clear hWb hgb kb hbb KR4 HB4 HM4
        have b0 : Wb.cell? ⟨gb, 0, none⟩ = some (.int .i64 g.f0) := (blk_cell KB4.out 0).trans rfl
        have b1 : Wb.cell? ⟨gb, 1, none⟩ = some (.slice E1 g.f1.length e1) := (blk_cell KB4.out 1).trans rfl
        have b2 : Wb.cell? ⟨gb, 2, none⟩ = some (.slice E2 g.f2.length e2) := (blk_cell KB4.out 2).trans rfl
        have b3 : Wb.cell? ⟨gb, 3, none⟩ = some (.slice E3 g.f3.length e3) := (blk_cell KB4.out 3).trans rfl
        go_wp2_with fail
        refine (check_calls _ g Wb (CopyOf.isG (⟨_, rfl, HMB.out⟩ : CopyOf g.bulk Wg Wb _ g)) (by omega)).mono ?_
        rintro e w5 ⟨v9, rfl, hev, hb5⟩
        have HEV := Aside0.mk hev
        have KR5 := Aside0.mk (blk_below KRB.out hb5)
        have KB5 := Aside0.mk (blk_below KB4.out hb5)
        have HB5 := Aside0.mk (below_step HBB.out hb5)
        have HM5 := Aside0.mk (Kd.M_below HMB.out hb5)
        clear hb5 b0 b1 b2 b3 KRB KB4 HBB HMB
        have r0 : w5.cell? ⟨gr, 0, none⟩ = some (.int .i64 0) := (blk_cell KR5.out 0).trans rfl
        have t0 := blk_frozen KR5.out 0
        have r1 : w5.cell? ⟨gr, 1, none⟩ = some (.slice none 0 0) := (blk_cell KR5.out 1).trans rfl
        have t1 := blk_frozen KR5.out 1
        have r2 : w5.cell? ⟨gr, 2, none⟩ = some (.slice none 0 0) := (blk_cell KR5.out 2).trans rfl
        have t2 := blk_frozen KR5.out 2
        have r3 : w5.cell? ⟨gr, 3, none⟩ = some (.slice none 0 0) := (blk_cell KR5.out 3).trans rfl
        have t3 := blk_frozen KR5.out 3
        have b0 : w5.cell? ⟨gb, 0, none⟩ = some (.int .i64 g.f0) := (blk_cell KB5.out 0).trans rfl
        have b1 : w5.cell? ⟨gb, 1, none⟩ = some (.slice E1 g.f1.length e1) := (blk_cell KB5.out 1).trans rfl
        have b2 : w5.cell? ⟨gb, 2, none⟩ = some (.slice E2 g.f2.length e2) := (blk_cell KB5.out 2).trans rfl
        have b3 : w5.cell? ⟨gb, 3, none⟩ = some (.slice E3 g.f3.length e3) := (blk_cell KB5.out 3).trans rfl
        cases hck : checkR g with
        | some xe =>
          rw [hck] at hev
          obtain ⟨xa, xc⟩ := xe
          have HE2 := Aside0.mk hev
          have HRS : ∀ W' v, ErrV W' v (some (xa, xc)) → GrowRes w W' l noGe v := fun W' v h => by
            unfold GrowRes
            rw [HOK.out]
            refine ⟨g, HFL.out, HCN.out, ?_⟩
            rw [hck]
            exact ⟨rfl, h⟩
          have HR := Aside0.mk HRS
          obtain ⟨gf, rfl, hf⟩ := hev
          clear hck hf HRS
          go_wp2_with fail
          have bk := (blk_set (blk_set (blk_set (blk_set KR5.out 0 (.int .i64 0)) 1 (.slice none 0 0)) 2 (.slice none 0 0)) 3 (.slice none 0 0))
          refine bodyPost_ret (results_geom2 (a := 2) (c := 3) (by rfl) _ _ (by rfl) (by simpa using bk)) rfl ?_
          refine ⟨_, _, rfl, HR.out _ _ ?_, ((((HB5.out.setCell (p := ⟨gr, 0, none⟩) HGR.out _).setCell (p := ⟨gr, 1, none⟩) HGR.out _).setCell (p := ⟨gr, 2, none⟩) HGR.out _).setCell (p := ⟨gr, 3, none⟩) HGR.out _)⟩
          exact (ErrV.farG (ErrV.farG (ErrV.farG (ErrV.farG HE2.out (j := 0) (u := .int .i64 0) KR5.out) (j := 1) (u := .slice none 0 0) (blk_set KR5.out 0 (.int .i64 0))) (j := 2) (u := .slice none 0 0) (blk_set (blk_set KR5.out 0 (.int .i64 0)) 1 (.slice none 0 0))) (j := 3) (u := .slice none 0 0) (blk_set (blk_set (blk_set KR5.out 0 (.int .i64 0)) 1 (.slice none 0 0)) 2 (.slice none 0 0)))
        | none =>
          rw [hck] at hev
          have HCK := Aside0.mk hck
          obtain rfl : v9 = .nilIface := hev
          clear hck HEV
          go_wp2_with fail
          have bk := (blk_set (blk_set (blk_set (blk_set KR5.out 0 (.int .i64 g.f0)) 1 (.slice E1 g.f1.length e1)) 2 (.slice E2 g.f2.length e2)) 3 (.slice E3 g.f3.length e3))
          refine bodyPost_ret (results_geom2 (a := 2) (c := 3) (by rfl) _ _ (by rfl) (by simpa using bk)) rfl ?_
          refine ⟨_, _, rfl, ?_, ((((HB5.out.setCell (p := ⟨gr, 0, none⟩) HGR.out _).setCell (p := ⟨gr, 1, none⟩) HGR.out _).setCell (p := ⟨gr, 2, none⟩) HGR.out _).setCell (p := ⟨gr, 3, none⟩) HGR.out _)⟩
          unfold GrowRes
          rw [HOK.out]
          refine ⟨g, HFL.out, HCN.out, ?_⟩
          rw [HCK.out]
          refine ⟨CopyOf.lower (w := Wg) ⟨_, rfl, ?_⟩ HWG.out.2, rfl⟩
          have hL := HWG.out.1
          exact Kd.M_far (p := ⟨gr, 3, none⟩) (Kd.M_far (p := ⟨gr, 2, none⟩) (Kd.M_far (p := ⟨gr, 1, none⟩) (Kd.M_far (p := ⟨gr, 0, none⟩) HM5.out (fun j h => by show j ≠ gr; omega) _) (fun j h => by show j ≠ gr; omega) _) (fun j h => by show j ≠ gr; omega) _) (fun j h => by show j ≠ gr; omega) _
    | succ kq =>
      have hlt : (k : Int) < (l.length : Int) := by omega
      have hlt1 : k < l.length := by omega
      have k0 : (0 : Int) ≤ (k : Int) := by omega
      obtain ⟨a1, S1, s1, L1, l1, e1, p0, p1, p2, i1, j1, i2, j2⟩ := at_Nd HC.out (k : Int) (by omega) (by omega)
      subst e1
      have hmm := HM.out l[k] (List.getElem_mem hlt1)
      rw [rd_Nd_at _ _ hlt1, Int.toNat_natCast] at p0 p1 p2
      rw [rd_Nd_at _ _ hlt1] at i1 j1 i2 j2
      rw [List.drop_eq_getElem_cons hlt1] at HGE
      obtain ⟨x, hx⟩ : ∃ x, x = l[k] := ⟨_, rfl⟩
      rw [← hx] at p0 p1 p2 i1 j1 i2 j2 hmm HGE
      clear hx
      have J1 := Aside0.mk j1
      have p0' := cell_below HB.out p0
      have p1' := cell_below HB.out p1
      have p2' := cell_below HB.out p2
      clear p0 p1 p2 i1 j1 i2 j2
      go_upto_region 5 with fail
      obtain ⟨gn, hgn⟩ : ∃ y, y = wr.heap.size := ⟨_, rfl⟩
      obtain ⟨Wn, hWn⟩ : ∃ y, y = wr.alloc (.cells #[.int .i64 x.f0, .slice S1 x.f1.length s1, .slice L1 x.f2.length l1] 54) := ⟨_, rfl⟩
      rw [← hWn, ← hgn]
      have kn : Wn.heap[gn]? = some (.cells #[.int .i64 x.f0, .slice S1 x.f1.length s1, .slice L1 x.f2.length l1] 54 (0, 0)) := by rw [hWn, hgn]; exact World.alloc_heap_new _ _
      have hbn : Below wr.heap.size wr Wn := by rw [hWn]; exact below_alloc (Below.refl _ _) _
      have KN := Aside0.mk kn
      have KRN := Aside0.mk (blk_below KR.out hbn)
      have HBN := Aside0.mk (below_step HB.out hbn)
      clear hWn hgn hbn KR HB p0' p1' p2' kn
      have n0 : Wn.cell? ⟨gn, 0, none⟩ = some (.int .i64 x.f0) := (blk_cell KN.out 0).trans rfl
      have n1 : Wn.cell? ⟨gn, 1, none⟩ = some (.slice S1 x.f1.length s1) := (blk_cell KN.out 1).trans rfl
      have n2 : Wn.cell? ⟨gn, 2, none⟩ = some (.slice L1 x.f2.length l1) := (blk_cell KN.out 2).trans rfl
      by_cases e0 : nS = 0
      · have q0 : (nS == 0) = true := beq_iff_eq.mpr e0
        have hE : nE = 0 := by
          have h := HNS.out.or_
          omega
        have HBAD := Aside0.mk (show growE 1 0 l = some k by rw [HGE.out, hE]; rfl)
        have E0 := Aside0.mk e0
        clear e0 hE n0 n1 n2
        go_wp2_with fail
        refine (wrap_calls (k : Int) 154 Wn).mono ?_
        rintro e w5 ⟨ve, rfl, hev, hb5⟩
        have HEV := Aside0.mk hev
        have KR5 := Aside0.mk (blk_below KRN.out hb5)
        have HB5 := Aside0.mk (below_step HBN.out hb5)
        clear hev hb5
        have r0 : w5.cell? ⟨gr, 0, none⟩ = some (.int .i64 0) := (blk_cell KR5.out 0).trans rfl
        have t0 := blk_frozen KR5.out 0
        have r1 : w5.cell? ⟨gr, 1, none⟩ = some (.slice none 0 0) := (blk_cell KR5.out 1).trans rfl
        have t1 := blk_frozen KR5.out 1
        have r2 : w5.cell? ⟨gr, 2, none⟩ = some (.slice none 0 0) := (blk_cell KR5.out 2).trans rfl
        have t2 := blk_frozen KR5.out 2
        have r3 : w5.cell? ⟨gr, 3, none⟩ = some (.slice none 0 0) := (blk_cell KR5.out 3).trans rfl
        have t3 := blk_frozen KR5.out 3
        go_wp2_with fail
        have bk := (blk_set (blk_set (blk_set (blk_set KR5.out 0 (.int .i64 0)) 1 (.slice none 0 0)) 2 (.slice none 0 0)) 3 (.slice none 0 0))
        refine bodyPost_ret (results_geom2 (a := 2) (c := 3) (by rfl) _ _ (by rfl) (by simpa using bk)) rfl ?_
        refine ⟨_, _, rfl, .bad (i := k) HBAD.out rfl ?_, ((((HB5.out.setCell (p := ⟨gr, 0, none⟩) HGR.out _).setCell (p := ⟨gr, 1, none⟩) HGR.out _).setCell (p := ⟨gr, 2, none⟩) HGR.out _).setCell (p := ⟨gr, 3, none⟩) HGR.out _)⟩
        exact (ErrV.farG (ErrV.farG (ErrV.farG (ErrV.farG HEV.out (j := 0) (u := .int .i64 0) KR5.out) (j := 1) (u := .slice none 0 0) (blk_set KR5.out 0 (.int .i64 0))) (j := 2) (u := .slice none 0 0) (blk_set (blk_set KR5.out 0 (.int .i64 0)) 1 (.slice none 0 0))) (j := 3) (u := .slice none 0 0) (blk_set (blk_set (blk_set KR5.out 0 (.int .i64 0)) 1 (.slice none 0 0)) 2 (.slice none 0 0)))
      · have q0 : (nS == 0) = false := beq_eq_false_iff_ne.mpr e0
        have hpos : 0 < nS := by omega
        obtain ⟨m, hm⟩ : ∃ m, nE = m + 1 := ⟨nE - 1, by have := HNS.out.le; omega⟩
        subst hm
        have hge := HGE.out
        rw [growE_cons] at hge
        have HGC := Aside0.mk hge
        clear hge e0
        go_wp2_with fail
        refine (sound_calls x S1 L1 s1 l1 Wn (Kd.C_below J1.out HBN.out) hmm.1 hmm.2).mono ?_
        rintro e w4 ⟨rfl, hb4⟩
        have KN4 := Aside0.mk (blk_below KN.out hb4)
        have KR4 := Aside0.mk (blk_below KRN.out hb4)
        have HB4 := Aside0.mk (below_step HBN.out hb4)
        clear hb4 KN KRN HBN n0 n1 n2
        have n0 : w4.cell? ⟨gn, 0, none⟩ = some (.int .i64 x.f0) := (blk_cell KN4.out 0).trans rfl
        have n1 : w4.cell? ⟨gn, 1, none⟩ = some (.slice S1 x.f1.length s1) := (blk_cell KN4.out 1).trans rfl
        cases hs : soundB x with
        | false =>
          have HBAD := Aside0.mk (show growE 1 0 l = some k by rw [HGC.out, if_neg (by rw [hs]; decide)])
          clear hs n0 n1
          go_wp2_with fail
          refine (wrap_calls (k : Int) 154 w4).mono ?_
          rintro e w5 ⟨ve, rfl, hev, hb5⟩
          have HEV := Aside0.mk hev
          have KR5 := Aside0.mk (blk_below KR4.out hb5)
          have HB5 := Aside0.mk (below_step HB4.out hb5)
          clear hev hb5
          have r0 : w5.cell? ⟨gr, 0, none⟩ = some (.int .i64 0) := (blk_cell KR5.out 0).trans rfl
          have t0 := blk_frozen KR5.out 0
          have r1 : w5.cell? ⟨gr, 1, none⟩ = some (.slice none 0 0) := (blk_cell KR5.out 1).trans rfl
          have t1 := blk_frozen KR5.out 1
          have r2 : w5.cell? ⟨gr, 2, none⟩ = some (.slice none 0 0) := (blk_cell KR5.out 2).trans rfl
          have t2 := blk_frozen KR5.out 2
          have r3 : w5.cell? ⟨gr, 3, none⟩ = some (.slice none 0 0) := (blk_cell KR5.out 3).trans rfl
          have t3 := blk_frozen KR5.out 3
          go_wp2_with fail
          have bk := (blk_set (blk_set (blk_set (blk_set KR5.out 0 (.int .i64 0)) 1 (.slice none 0 0)) 2 (.slice none 0 0)) 3 (.slice none 0 0))
          refine bodyPost_ret (results_geom2 (a := 2) (c := 3) (by rfl) _ _ (by rfl) (by simpa using bk)) rfl ?_
          refine ⟨_, _, rfl, .bad (i := k) HBAD.out rfl ?_, ((((HB5.out.setCell (p := ⟨gr, 0, none⟩) HGR.out _).setCell (p := ⟨gr, 1, none⟩) HGR.out _).setCell (p := ⟨gr, 2, none⟩) HGR.out _).setCell (p := ⟨gr, 3, none⟩) HGR.out _)⟩
          exact (ErrV.farG (ErrV.farG (ErrV.farG (ErrV.farG HEV.out (j := 0) (u := .int .i64 0) KR5.out) (j := 1) (u := .slice none 0 0) (blk_set KR5.out 0 (.int .i64 0))) (j := 2) (u := .slice none 0 0) (blk_set (blk_set KR5.out 0 (.int .i64 0)) 1 (.slice none 0 0))) (j := 3) (u := .slice none 0 0) (blk_set (blk_set (blk_set KR5.out 0 (.int .i64 0)) 1 (.slice none 0 0)) 2 (.slice none 0 0)))
        | true =>
          have HS := Aside0.mk hs
          by_cases c3 : 3 < x.f0
          · obtain ⟨a, ha, har⟩ := sound_many hs c3
            have HNX := Aside0.mk (show growE 1 0 l = growE (m + a) (k + 1) (l.drop (k + 1)) by rw [HGC.out, if_pos hs, har])
            have hlen : x.f1.length = 1 := by rw [ha]; rfl
            obtain ⟨a2, e2, hx⟩ := at_I J1.out 0 rfl (by omega)
            subst e2
            have hx' : w4.cell? a2 = some (.int .i64 (a : Int)) := by
              have e : a2.add 0 = a2 := by cases a2; simp [Addr.add]
              have hv : x.f1[0]'(by omega) = (a : Int) := by simp [ha]
              rw [e, hv] at hx
              exact cell_below HB4.out hx
            have HN2 := Aside0.mk (HNS.out.next (a := a) hpos)
            have hl1 : (0 : Int) < (x.f1.length : Int) := by omega
            clear hs hx ha har hlen
            go_wp2_with fail
            all_goals
              go_roundg kq
              case measure => omega
              case rel => exact ⟨k + 1, m + a, _, by omega, by go_num, rfl, ⟨NS.of_eq HN2.out (by omega)⟩, HNX, KR4, HB4⟩
          · have HNX := Aside0.mk (show growE 1 0 l = growE m (k + 1) (l.drop (k + 1)) by rw [HGC.out, if_pos hs, sound_few c3, Nat.add_zero])
            have HN2 := Aside0.mk (HNS.out.plain hpos)
            clear hs
            go_wp2_with fail
            go_roundg kq
            case measure => omega
            case rel => exact ⟨k + 1, m, nS - 1, by omega, by go_num, by go_num, HN2, HNX, KR4, HB4⟩
end Go.Proofs.YtmcbniobbbjdjaaDoor.Tree
