/- The law TreePuts by contract, where what it reads weighs no more than the bound. No conditions but those told. -/
import Derived.Test.YtmcbniobbbjdjaaTSmall
import Derived.Test.YtmcbniobbbjdjaaTAlive
import Derived.Test.YtmcbniobbbjdjaaTEqual
import Derived.Test.YtmcbniobbbjdjaaTBegins
namespace Go.Proofs.Ytmcbniobbbjdjaa.Tree
open Go.RowKit Go.Proofs.YtmcbniobbbjdjaaW.PrintWords Go.Proofs.YtmcbniobbbjdjaaW.PrintLast Go.Proofs.YtmcbniobbbjdjaaW.PrintMore
set_option linter.unusedVariables false
set_option linter.unusedSimpArgs false
theorem PutRes.none_ {w w' : World} {g p : Ge} {q : List Int} {u : Value} {c : Int} (h : PutRes w w' g q p u c) (e : findR g q = none) : u = noGe ∧ c = 153 := by unfold PutRes at h; rw [e] at h; exact h
theorem PutRes.some_ {w w' : World} {g p k : Ge} {q : List Int} {u : Value} {c : Int} (h : PutRes w w' g q p u c) (e : findR g q = some k) : CopyOf (g.bulk + p.bulk) w w' u (putG g q p) ∧ c = 0 := by unfold PutRes at h; rw [e] at h; exact h
theorem RPutRes.some_ {N : Nat} {w w' : World} {g p k : Ge} {q : List Int} {u : Value} {c : Int} (h : RPutRes N w w' g q p u c) (e : findR g q = some k) : CopyOf N w w' u (putG g q p) ∧ c = 0 := by unfold RPutRes at h; rw [e] at h; exact h
theorem findR_put {g k p : Ge} {q : List Int} (h : findR g q = some k) : findR (putG g q p) q = some p := by
  have h2 := at_putG p q g k (findR_at h)
  unfold findR at h ⊢
  split at h
  · cases h
  · rename_i hl
    rw [if_neg hl]
    exact h2
theorem findR_ne {g k p : Ge} {q o : List Int} (h : findR g q = some k) (hb : begB q o = false) : findR (putG g q p) o = findR g o := by
  have h2 := at_putG_ne p q o g k (findR_at h) hb
  unfold findR
  rw [h2]
set_option maxRecDepth 100000 in
set_option maxHeartbeats 16000000 in
theorem puts_calls (v u : Value) (g p : Ge) (A B : Option Addr) (c d : Nat) (q o : List Int) (w : World) (hv : IsG w v g) (hu : IsG w u p) (hp : Kd.C (Kd.int .i64) w A q.length q) (ho : Kd.C (Kd.int .i64) w B o.length o) (hcap : q.length ≤ c) (hall : g.bulk + q.length + o.length + p.bulk ≤ 1048576) :
    Calls Try.prog 6 #[v, .slice A q.length c, .slice B o.length d, u] w fun e w' => e = .returned (.bool true) ∧ Below w.heap.size w w' := by
  have HV := Aside0.mk hv
  have HU := Aside0.mk hu
  have HP := Aside0.mk hp
  have HO := Aside0.mk ho
  have HC := Aside0.mk hcap
  obtain ⟨A1, c1, A2, c2, A3, c3, rfl, _⟩ := hv
  obtain ⟨D1, d1, D2, d2, D3, d3, rfl, _⟩ := hu
  clear hp ho hcap
  have hun := Try.underlying26
  have HB0 := Aside0.mk (Below.refl w.heap.size w)
  go_enter Try.func6, Try.ntmps6
  go_wp2_with fail
  obtain ⟨ga, hga⟩ : ∃ x, x = w.heap.size := ⟨_, rfl⟩
  obtain ⟨gb, hgb⟩ : ∃ x, x = w.heap.size + 1 := ⟨_, rfl⟩
  obtain ⟨W0, hW0⟩ : ∃ x, x = ((w.alloc (.cells #[.int .i64 g.f0, .slice A1 g.f1.length c1, .slice A2 g.f2.length c2, .slice A3 g.f3.length c3] 26)).alloc (.cells #[.int .i64 p.f0, .slice D1 p.f1.length d1, .slice D2 p.f2.length d2, .slice D3 p.f3.length d3] 26)) := ⟨_, rfl⟩
  rw [← hW0, ← hgb, ← hga]
  have KA := Aside0.mk (show W0.heap[ga]? = some (.cells #[.int .i64 g.f0, .slice A1 g.f1.length c1, .slice A2 g.f2.length c2, .slice A3 g.f3.length c3] 26 (0, 0)) by rw [hW0, hga]; exact blk_alloc (World.alloc_heap_new _ _) _)
  have KB := Aside0.mk (show W0.heap[gb]? = some (.cells #[.int .i64 p.f0, .slice D1 p.f1.length d1, .slice D2 p.f2.length d2, .slice D3 p.f3.length d3] 26 (0, 0)) by
    rw [hW0, hgb]
    have h := World.alloc_heap_new (w.alloc (.cells #[.int .i64 g.f0, .slice A1 g.f1.length c1, .slice A2 g.f2.length c2, .slice A3 g.f3.length c3] 26)) (.cells #[.int .i64 p.f0, .slice D1 p.f1.length d1, .slice D2 p.f2.length d2, .slice D3 p.f3.length d3] 26)
    simpa using h)
  have HB := Aside0.mk (show Below w.heap.size w W0 by rw [hW0]; exact below_alloc (below_alloc (Below.refl _ _) _) _)
  have IA := Aside0.mk (HV.out.below HB.out)
  have IB := Aside0.mk (HU.out.below HB.out)
  clear hW0 hga hgb HB0
  refine (alive_calls W0).mono ?_
  rintro e W1 ⟨rfl, hb_⟩
  have n_ := Aside0.mk (blk_below KA.out hb_)
  clear KA
  have KA := n_
  clear n_
  have n_ := Aside0.mk (blk_below KB.out hb_)
  clear KB
  have KB := n_
  clear n_
  have n_ := Aside0.mk (IA.out.below hb_)
  clear IA
  have IA := n_
  clear n_
  have n_ := Aside0.mk (IB.out.below hb_)
  clear IB
  have IB := n_
  clear n_
  have n_ := Aside0.mk (below_step HB.out hb_)
  clear HB
  have HB := n_
  clear n_
  clear hb_
  have zA0_ : W1.cell? ⟨ga, 0, none⟩ = some (.int .i64 g.f0) := (blk_cell KA.out 0).trans rfl
  have zA1_ : W1.cell? ⟨ga, 1, none⟩ = some (.slice A1 g.f1.length c1) := (blk_cell KA.out 1).trans rfl
  have zA2_ : W1.cell? ⟨ga, 2, none⟩ = some (.slice A2 g.f2.length c2) := (blk_cell KA.out 2).trans rfl
  have zA3_ : W1.cell? ⟨ga, 3, none⟩ = some (.slice A3 g.f3.length c3) := (blk_cell KA.out 3).trans rfl
  have zB0_ : W1.cell? ⟨gb, 0, none⟩ = some (.int .i64 p.f0) := (blk_cell KB.out 0).trans rfl
  have zB1_ : W1.cell? ⟨gb, 1, none⟩ = some (.slice D1 p.f1.length d1) := (blk_cell KB.out 1).trans rfl
  have zB2_ : W1.cell? ⟨gb, 2, none⟩ = some (.slice D2 p.f2.length d2) := (blk_cell KB.out 2).trans rfl
  have zB3_ : W1.cell? ⟨gb, 3, none⟩ = some (.slice D3 p.f3.length d3) := (blk_cell KB.out 3).trans rfl
  go_wp2_with fail
  clear zA0_ zA1_ zA2_ zA3_ zB0_ zB1_ zB2_ zB3_
  refine (small_calls _ g W1 IA.out (by omega)).mono ?_
  rintro e W2 ⟨rfl, hb_⟩
  have n_ := Aside0.mk (blk_below KA.out hb_)
  clear KA
  have KA := n_
  clear n_
  have n_ := Aside0.mk (blk_below KB.out hb_)
  clear KB
  have KB := n_
  clear n_
  have n_ := Aside0.mk (IA.out.below hb_)
  clear IA
  have IA := n_
  clear n_
  have n_ := Aside0.mk (IB.out.below hb_)
  clear IB
  have IB := n_
  clear n_
  have n_ := Aside0.mk (below_step HB.out hb_)
  clear HB
  have HB := n_
  clear n_
  clear hb_
  have zA0_ : W2.cell? ⟨ga, 0, none⟩ = some (.int .i64 g.f0) := (blk_cell KA.out 0).trans rfl
  have zA1_ : W2.cell? ⟨ga, 1, none⟩ = some (.slice A1 g.f1.length c1) := (blk_cell KA.out 1).trans rfl
  have zA2_ : W2.cell? ⟨ga, 2, none⟩ = some (.slice A2 g.f2.length c2) := (blk_cell KA.out 2).trans rfl
  have zA3_ : W2.cell? ⟨ga, 3, none⟩ = some (.slice A3 g.f3.length c3) := (blk_cell KA.out 3).trans rfl
  have zB0_ : W2.cell? ⟨gb, 0, none⟩ = some (.int .i64 p.f0) := (blk_cell KB.out 0).trans rfl
  have zB1_ : W2.cell? ⟨gb, 1, none⟩ = some (.slice D1 p.f1.length d1) := (blk_cell KB.out 1).trans rfl
  have zB2_ : W2.cell? ⟨gb, 2, none⟩ = some (.slice D2 p.f2.length d2) := (blk_cell KB.out 2).trans rfl
  have zB3_ : W2.cell? ⟨gb, 3, none⟩ = some (.slice D3 p.f3.length d3) := (blk_cell KB.out 3).trans rfl
  cases hs1 : isSmall g with
  | false =>
    go_wp2_with fail
    refine (alive_calls W2).mono ?_
    rintro e w9 ⟨rfl, hb9⟩
    have HB9 := Aside0.mk (below_step HB.out hb9)
    clear hb9
    go_wp2_with fail
    go_ret
    exact ⟨rfl, HB9.out⟩
  | true =>
    clear hs1
    go_wp2_with fail
    clear zA0_ zA1_ zA2_ zA3_ zB0_ zB1_ zB2_ zB3_
    refine (small_calls _ p W2 IB.out (by omega)).mono ?_
    rintro e W3 ⟨rfl, hb_⟩
    have n_ := Aside0.mk (blk_below KA.out hb_)
    clear KA
    have KA := n_
    clear n_
    have n_ := Aside0.mk (blk_below KB.out hb_)
    clear KB
    have KB := n_
    clear n_
    have n_ := Aside0.mk (IA.out.below hb_)
    clear IA
    have IA := n_
    clear n_
    have n_ := Aside0.mk (IB.out.below hb_)
    clear IB
    have IB := n_
    clear n_
    have n_ := Aside0.mk (below_step HB.out hb_)
    clear HB
    have HB := n_
    clear n_
    clear hb_
    have zA0_ : W3.cell? ⟨ga, 0, none⟩ = some (.int .i64 g.f0) := (blk_cell KA.out 0).trans rfl
    have zA1_ : W3.cell? ⟨ga, 1, none⟩ = some (.slice A1 g.f1.length c1) := (blk_cell KA.out 1).trans rfl
    have zA2_ : W3.cell? ⟨ga, 2, none⟩ = some (.slice A2 g.f2.length c2) := (blk_cell KA.out 2).trans rfl
    have zA3_ : W3.cell? ⟨ga, 3, none⟩ = some (.slice A3 g.f3.length c3) := (blk_cell KA.out 3).trans rfl
    have zB0_ : W3.cell? ⟨gb, 0, none⟩ = some (.int .i64 p.f0) := (blk_cell KB.out 0).trans rfl
    have zB1_ : W3.cell? ⟨gb, 1, none⟩ = some (.slice D1 p.f1.length d1) := (blk_cell KB.out 1).trans rfl
    have zB2_ : W3.cell? ⟨gb, 2, none⟩ = some (.slice D2 p.f2.length d2) := (blk_cell KB.out 2).trans rfl
    have zB3_ : W3.cell? ⟨gb, 3, none⟩ = some (.slice D3 p.f3.length d3) := (blk_cell KB.out 3).trans rfl
    cases hs2 : isSmall p with
    | false =>
      go_wp2_with fail
      refine (alive_calls W3).mono ?_
      rintro e w9 ⟨rfl, hb9⟩
      have HB9 := Aside0.mk (below_step HB.out hb9)
      clear hb9
      go_wp2_with fail
      go_ret
      exact ⟨rfl, HB9.out⟩
    | true =>
      clear hs2
      go_wp2_with fail
      cases hq : findR g q with
      | none =>
        have HQ := Aside0.mk hq
        clear hq
        clear zA0_ zA1_ zA2_ zA3_ zB0_ zB1_ zB2_ zB3_
        refine (Find_calls _ g A q.length c q W3 IA.out (by omega) rfl (Kd.C_below HP.out HB.out)).mono ?_
        rintro e W4 ⟨u_, c_, rfl, hr_, hb_⟩
        obtain ⟨rfl, rfl⟩ := hr_.none_ HQ.out
        unfold noGe
        clear hr_
        have n_ := Aside0.mk (blk_below KA.out hb_)
        clear KA
        have KA := n_
        clear n_
        have n_ := Aside0.mk (blk_below KB.out hb_)
        clear KB
        have KB := n_
        clear n_
        have n_ := Aside0.mk (IA.out.below hb_)
        clear IA
        have IA := n_
        clear n_
        have n_ := Aside0.mk (IB.out.below hb_)
        clear IB
        have IB := n_
        clear n_
        have n_ := Aside0.mk (below_step HB.out hb_)
        clear HB
        have HB := n_
        clear n_
        clear hb_
        have zA0_ : (W4.alloc (.cells #[.int .i64 0, .slice none 0 0, .slice none 0 0, .slice none 0 0] 26)).cell? ⟨ga, 0, none⟩ = some (.int .i64 g.f0) := (blk_cell (blk_alloc KA.out _) 0).trans rfl
        have zA1_ : (W4.alloc (.cells #[.int .i64 0, .slice none 0 0, .slice none 0 0, .slice none 0 0] 26)).cell? ⟨ga, 1, none⟩ = some (.slice A1 g.f1.length c1) := (blk_cell (blk_alloc KA.out _) 1).trans rfl
        have zA2_ : (W4.alloc (.cells #[.int .i64 0, .slice none 0 0, .slice none 0 0, .slice none 0 0] 26)).cell? ⟨ga, 2, none⟩ = some (.slice A2 g.f2.length c2) := (blk_cell (blk_alloc KA.out _) 2).trans rfl
        have zA3_ : (W4.alloc (.cells #[.int .i64 0, .slice none 0 0, .slice none 0 0, .slice none 0 0] 26)).cell? ⟨ga, 3, none⟩ = some (.slice A3 g.f3.length c3) := (blk_cell (blk_alloc KA.out _) 3).trans rfl
        have zB0_ : (W4.alloc (.cells #[.int .i64 0, .slice none 0 0, .slice none 0 0, .slice none 0 0] 26)).cell? ⟨gb, 0, none⟩ = some (.int .i64 p.f0) := (blk_cell (blk_alloc KB.out _) 0).trans rfl
        have zB1_ : (W4.alloc (.cells #[.int .i64 0, .slice none 0 0, .slice none 0 0, .slice none 0 0] 26)).cell? ⟨gb, 1, none⟩ = some (.slice D1 p.f1.length d1) := (blk_cell (blk_alloc KB.out _) 1).trans rfl
        have zB2_ : (W4.alloc (.cells #[.int .i64 0, .slice none 0 0, .slice none 0 0, .slice none 0 0] 26)).cell? ⟨gb, 2, none⟩ = some (.slice D2 p.f2.length d2) := (blk_cell (blk_alloc KB.out _) 2).trans rfl
        have zB3_ : (W4.alloc (.cells #[.int .i64 0, .slice none 0 0, .slice none 0 0, .slice none 0 0] 26)).cell? ⟨gb, 3, none⟩ = some (.slice D3 p.f3.length d3) := (blk_cell (blk_alloc KB.out _) 3).trans rfl
        go_wp2_with fail
        clear zA0_ zA1_ zA2_ zA3_ zB0_ zB1_ zB2_ zB3_
        obtain ⟨gU, hgU_⟩ : ∃ x, x = W4.heap.size := ⟨_, rfl⟩
        obtain ⟨W5, hW5_⟩ : ∃ x, x = W4.alloc (.cells #[.int .i64 0, .slice none 0 0, .slice none 0 0, .slice none 0 0] 26) := ⟨_, rfl⟩
        rw [← hW5_, ← hgU_]
        have KU := Aside0.mk (show W5.heap[gU]? = some (.cells #[.int .i64 0, .slice none 0 0, .slice none 0 0, .slice none 0 0] 26 (0, 0)) by rw [hW5_, hgU_]; exact World.alloc_heap_new _ _)
        have hb_ : Below W4.heap.size W4 W5 := by rw [hW5_]; exact below_alloc (Below.refl _ _) _
        clear hW5_ hgU_
        have n_ := Aside0.mk (blk_below KA.out hb_)
        clear KA
        have KA := n_
        clear n_
        have n_ := Aside0.mk (blk_below KB.out hb_)
        clear KB
        have KB := n_
        clear n_
        have n_ := Aside0.mk (IA.out.below hb_)
        clear IA
        have IA := n_
        clear n_
        have n_ := Aside0.mk (IB.out.below hb_)
        clear IB
        have IB := n_
        clear n_
        have n_ := Aside0.mk (below_step HB.out hb_)
        clear HB
        have HB := n_
        clear n_
        clear hb_
        refine (Put_calls _ _ g p A q.length c q W5 IA.out IB.out (by omega) rfl (Kd.C_below HP.out HB.out)).mono ?_
        rintro e W6 ⟨u_, c_, rfl, hr_, hb_⟩
        obtain ⟨rfl, rfl⟩ := hr_.none_ HQ.out
        unfold noGe
        clear hr_
        have n_ := Aside0.mk (blk_below KA.out hb_)
        clear KA
        have KA := n_
        clear n_
        have n_ := Aside0.mk (blk_below KB.out hb_)
        clear KB
        have KB := n_
        clear n_
        have n_ := Aside0.mk (IA.out.below hb_)
        clear IA
        have IA := n_
        clear n_
        have n_ := Aside0.mk (IB.out.below hb_)
        clear IB
        have IB := n_
        clear n_
        have n_ := Aside0.mk (below_step HB.out hb_)
        clear HB
        have HB := n_
        clear n_
        have n_ := Aside0.mk (blk_below KU.out hb_)
        clear KU
        have KU := n_
        clear n_
        clear hb_
        have zA0_ : (W6.alloc (.cells #[.int .i64 0, .slice none 0 0, .slice none 0 0, .slice none 0 0] 26)).cell? ⟨ga, 0, none⟩ = some (.int .i64 g.f0) := (blk_cell (blk_alloc KA.out _) 0).trans rfl
        have zA1_ : (W6.alloc (.cells #[.int .i64 0, .slice none 0 0, .slice none 0 0, .slice none 0 0] 26)).cell? ⟨ga, 1, none⟩ = some (.slice A1 g.f1.length c1) := (blk_cell (blk_alloc KA.out _) 1).trans rfl
        have zA2_ : (W6.alloc (.cells #[.int .i64 0, .slice none 0 0, .slice none 0 0, .slice none 0 0] 26)).cell? ⟨ga, 2, none⟩ = some (.slice A2 g.f2.length c2) := (blk_cell (blk_alloc KA.out _) 2).trans rfl
        have zA3_ : (W6.alloc (.cells #[.int .i64 0, .slice none 0 0, .slice none 0 0, .slice none 0 0] 26)).cell? ⟨ga, 3, none⟩ = some (.slice A3 g.f3.length c3) := (blk_cell (blk_alloc KA.out _) 3).trans rfl
        have zB0_ : (W6.alloc (.cells #[.int .i64 0, .slice none 0 0, .slice none 0 0, .slice none 0 0] 26)).cell? ⟨gb, 0, none⟩ = some (.int .i64 p.f0) := (blk_cell (blk_alloc KB.out _) 0).trans rfl
        have zB1_ : (W6.alloc (.cells #[.int .i64 0, .slice none 0 0, .slice none 0 0, .slice none 0 0] 26)).cell? ⟨gb, 1, none⟩ = some (.slice D1 p.f1.length d1) := (blk_cell (blk_alloc KB.out _) 1).trans rfl
        have zB2_ : (W6.alloc (.cells #[.int .i64 0, .slice none 0 0, .slice none 0 0, .slice none 0 0] 26)).cell? ⟨gb, 2, none⟩ = some (.slice D2 p.f2.length d2) := (blk_cell (blk_alloc KB.out _) 2).trans rfl
        have zB3_ : (W6.alloc (.cells #[.int .i64 0, .slice none 0 0, .slice none 0 0, .slice none 0 0] 26)).cell? ⟨gb, 3, none⟩ = some (.slice D3 p.f3.length d3) := (blk_cell (blk_alloc KB.out _) 3).trans rfl
        have zU0_ : (W6.alloc (.cells #[.int .i64 0, .slice none 0 0, .slice none 0 0, .slice none 0 0] 26)).cell? ⟨gU, 0, none⟩ = some (.int .i64 0) := (blk_cell (blk_alloc KU.out _) 0).trans rfl
        have zU1_ : (W6.alloc (.cells #[.int .i64 0, .slice none 0 0, .slice none 0 0, .slice none 0 0] 26)).cell? ⟨gU, 1, none⟩ = some (.slice none 0 0) := (blk_cell (blk_alloc KU.out _) 1).trans rfl
        have zU2_ : (W6.alloc (.cells #[.int .i64 0, .slice none 0 0, .slice none 0 0, .slice none 0 0] 26)).cell? ⟨gU, 2, none⟩ = some (.slice none 0 0) := (blk_cell (blk_alloc KU.out _) 2).trans rfl
        have zU3_ : (W6.alloc (.cells #[.int .i64 0, .slice none 0 0, .slice none 0 0, .slice none 0 0] 26)).cell? ⟨gU, 3, none⟩ = some (.slice none 0 0) := (blk_cell (blk_alloc KU.out _) 3).trans rfl
        have HBn := Aside0.mk (below_alloc HB.out (.cells #[.int .i64 0, .slice none 0 0, .slice none 0 0, .slice none 0 0] 26))
        go_wp2_with fail
        go_ret
        exact ⟨rfl, HBn.out⟩
      | some k =>
        have HQ := Aside0.mk hq
        have hkb : k.bulk ≤ g.bulk := at_bulk q g k (findR_at hq)
        have hpb := putG_bulk p q g k (findR_at hq)
        have HQP := Aside0.mk (findR_put (p := p) hq)
        have HSM := Aside0.mk (putG_same q g k (findR_at hq))
        clear hq
        clear zA0_ zA1_ zA2_ zA3_ zB0_ zB1_ zB2_ zB3_
        refine (Find_calls _ g A q.length c q W3 IA.out (by omega) rfl (Kd.C_below HP.out HB.out)).mono ?_
        rintro e W4 ⟨u_, c_, rfl, hr_, hb_⟩
        obtain ⟨hg_, rfl⟩ := hr_.some_ HQ.out
        have hI := hg_.isG
        obtain ⟨U1, yU1, U2, yU2, U3, yU3, rfl, _⟩ := hg_.isG
        have IU := Aside0.mk hI
        clear hr_ hg_ hI
        have n_ := Aside0.mk (blk_below KA.out hb_)
        clear KA
        have KA := n_
        clear n_
        have n_ := Aside0.mk (blk_below KB.out hb_)
        clear KB
        have KB := n_
        clear n_
        have n_ := Aside0.mk (IA.out.below hb_)
        clear IA
        have IA := n_
        clear n_
        have n_ := Aside0.mk (IB.out.below hb_)
        clear IB
        have IB := n_
        clear n_
        have n_ := Aside0.mk (below_step HB.out hb_)
        clear HB
        have HB := n_
        clear n_
        clear hb_
        have zA0_ : (W4.alloc (.cells #[.int .i64 (k).f0, .slice U1 (k).f1.length yU1, .slice U2 (k).f2.length yU2, .slice U3 (k).f3.length yU3] 26)).cell? ⟨ga, 0, none⟩ = some (.int .i64 g.f0) := (blk_cell (blk_alloc KA.out _) 0).trans rfl
        have zA1_ : (W4.alloc (.cells #[.int .i64 (k).f0, .slice U1 (k).f1.length yU1, .slice U2 (k).f2.length yU2, .slice U3 (k).f3.length yU3] 26)).cell? ⟨ga, 1, none⟩ = some (.slice A1 g.f1.length c1) := (blk_cell (blk_alloc KA.out _) 1).trans rfl
        have zA2_ : (W4.alloc (.cells #[.int .i64 (k).f0, .slice U1 (k).f1.length yU1, .slice U2 (k).f2.length yU2, .slice U3 (k).f3.length yU3] 26)).cell? ⟨ga, 2, none⟩ = some (.slice A2 g.f2.length c2) := (blk_cell (blk_alloc KA.out _) 2).trans rfl
        have zA3_ : (W4.alloc (.cells #[.int .i64 (k).f0, .slice U1 (k).f1.length yU1, .slice U2 (k).f2.length yU2, .slice U3 (k).f3.length yU3] 26)).cell? ⟨ga, 3, none⟩ = some (.slice A3 g.f3.length c3) := (blk_cell (blk_alloc KA.out _) 3).trans rfl
        have zB0_ : (W4.alloc (.cells #[.int .i64 (k).f0, .slice U1 (k).f1.length yU1, .slice U2 (k).f2.length yU2, .slice U3 (k).f3.length yU3] 26)).cell? ⟨gb, 0, none⟩ = some (.int .i64 p.f0) := (blk_cell (blk_alloc KB.out _) 0).trans rfl
        have zB1_ : (W4.alloc (.cells #[.int .i64 (k).f0, .slice U1 (k).f1.length yU1, .slice U2 (k).f2.length yU2, .slice U3 (k).f3.length yU3] 26)).cell? ⟨gb, 1, none⟩ = some (.slice D1 p.f1.length d1) := (blk_cell (blk_alloc KB.out _) 1).trans rfl
        have zB2_ : (W4.alloc (.cells #[.int .i64 (k).f0, .slice U1 (k).f1.length yU1, .slice U2 (k).f2.length yU2, .slice U3 (k).f3.length yU3] 26)).cell? ⟨gb, 2, none⟩ = some (.slice D2 p.f2.length d2) := (blk_cell (blk_alloc KB.out _) 2).trans rfl
        have zB3_ : (W4.alloc (.cells #[.int .i64 (k).f0, .slice U1 (k).f1.length yU1, .slice U2 (k).f2.length yU2, .slice U3 (k).f3.length yU3] 26)).cell? ⟨gb, 3, none⟩ = some (.slice D3 p.f3.length d3) := (blk_cell (blk_alloc KB.out _) 3).trans rfl
        go_wp2_with fail
        clear zA0_ zA1_ zA2_ zA3_ zB0_ zB1_ zB2_ zB3_
        obtain ⟨gU, hgU_⟩ : ∃ x, x = W4.heap.size := ⟨_, rfl⟩
        obtain ⟨W5, hW5_⟩ : ∃ x, x = W4.alloc (.cells #[.int .i64 (k).f0, .slice U1 (k).f1.length yU1, .slice U2 (k).f2.length yU2, .slice U3 (k).f3.length yU3] 26) := ⟨_, rfl⟩
        rw [← hW5_, ← hgU_]
        have KU := Aside0.mk (show W5.heap[gU]? = some (.cells #[.int .i64 (k).f0, .slice U1 (k).f1.length yU1, .slice U2 (k).f2.length yU2, .slice U3 (k).f3.length yU3] 26 (0, 0)) by rw [hW5_, hgU_]; exact World.alloc_heap_new _ _)
        have hb_ : Below W4.heap.size W4 W5 := by rw [hW5_]; exact below_alloc (Below.refl _ _) _
        clear hW5_ hgU_
        have n_ := Aside0.mk (blk_below KA.out hb_)
        clear KA
        have KA := n_
        clear n_
        have n_ := Aside0.mk (blk_below KB.out hb_)
        clear KB
        have KB := n_
        clear n_
        have n_ := Aside0.mk (IA.out.below hb_)
        clear IA
        have IA := n_
        clear n_
        have n_ := Aside0.mk (IB.out.below hb_)
        clear IB
        have IB := n_
        clear n_
        have n_ := Aside0.mk (below_step HB.out hb_)
        clear HB
        have HB := n_
        clear n_
        have n_ := Aside0.mk (IU.out.below hb_)
        clear IU
        have IU := n_
        clear n_
        clear hb_
        refine (Put_calls _ _ g p A q.length c q W5 IA.out IB.out (by omega) rfl (Kd.C_below HP.out HB.out)).mono ?_
        rintro e W6 ⟨u_, c_, rfl, hr_, hb_⟩
        obtain ⟨hg_, rfl⟩ := hr_.some_ HQ.out
        have hI := hg_.isG
        obtain ⟨S1, yS1, S2, yS2, S3, yS3, rfl, _⟩ := hg_.isG
        have IS := Aside0.mk hI
        clear hr_ hg_ hI
        have n_ := Aside0.mk (blk_below KA.out hb_)
        clear KA
        have KA := n_
        clear n_
        have n_ := Aside0.mk (blk_below KB.out hb_)
        clear KB
        have KB := n_
        clear n_
        have n_ := Aside0.mk (IA.out.below hb_)
        clear IA
        have IA := n_
        clear n_
        have n_ := Aside0.mk (IB.out.below hb_)
        clear IB
        have IB := n_
        clear n_
        have n_ := Aside0.mk (below_step HB.out hb_)
        clear HB
        have HB := n_
        clear n_
        have n_ := Aside0.mk (IU.out.below hb_)
        clear IU
        have IU := n_
        clear n_
        have n_ := Aside0.mk (blk_below KU.out hb_)
        clear KU
        have KU := n_
        clear n_
        clear hb_
        have zA0_ : (W6.alloc (.cells #[.int .i64 (putG g q p).f0, .slice S1 (putG g q p).f1.length yS1, .slice S2 (putG g q p).f2.length yS2, .slice S3 (putG g q p).f3.length yS3] 26)).cell? ⟨ga, 0, none⟩ = some (.int .i64 g.f0) := (blk_cell (blk_alloc KA.out _) 0).trans rfl
        have zA1_ : (W6.alloc (.cells #[.int .i64 (putG g q p).f0, .slice S1 (putG g q p).f1.length yS1, .slice S2 (putG g q p).f2.length yS2, .slice S3 (putG g q p).f3.length yS3] 26)).cell? ⟨ga, 1, none⟩ = some (.slice A1 g.f1.length c1) := (blk_cell (blk_alloc KA.out _) 1).trans rfl
        have zA2_ : (W6.alloc (.cells #[.int .i64 (putG g q p).f0, .slice S1 (putG g q p).f1.length yS1, .slice S2 (putG g q p).f2.length yS2, .slice S3 (putG g q p).f3.length yS3] 26)).cell? ⟨ga, 2, none⟩ = some (.slice A2 g.f2.length c2) := (blk_cell (blk_alloc KA.out _) 2).trans rfl
        have zA3_ : (W6.alloc (.cells #[.int .i64 (putG g q p).f0, .slice S1 (putG g q p).f1.length yS1, .slice S2 (putG g q p).f2.length yS2, .slice S3 (putG g q p).f3.length yS3] 26)).cell? ⟨ga, 3, none⟩ = some (.slice A3 g.f3.length c3) := (blk_cell (blk_alloc KA.out _) 3).trans rfl
        have zB0_ : (W6.alloc (.cells #[.int .i64 (putG g q p).f0, .slice S1 (putG g q p).f1.length yS1, .slice S2 (putG g q p).f2.length yS2, .slice S3 (putG g q p).f3.length yS3] 26)).cell? ⟨gb, 0, none⟩ = some (.int .i64 p.f0) := (blk_cell (blk_alloc KB.out _) 0).trans rfl
        have zB1_ : (W6.alloc (.cells #[.int .i64 (putG g q p).f0, .slice S1 (putG g q p).f1.length yS1, .slice S2 (putG g q p).f2.length yS2, .slice S3 (putG g q p).f3.length yS3] 26)).cell? ⟨gb, 1, none⟩ = some (.slice D1 p.f1.length d1) := (blk_cell (blk_alloc KB.out _) 1).trans rfl
        have zB2_ : (W6.alloc (.cells #[.int .i64 (putG g q p).f0, .slice S1 (putG g q p).f1.length yS1, .slice S2 (putG g q p).f2.length yS2, .slice S3 (putG g q p).f3.length yS3] 26)).cell? ⟨gb, 2, none⟩ = some (.slice D2 p.f2.length d2) := (blk_cell (blk_alloc KB.out _) 2).trans rfl
        have zB3_ : (W6.alloc (.cells #[.int .i64 (putG g q p).f0, .slice S1 (putG g q p).f1.length yS1, .slice S2 (putG g q p).f2.length yS2, .slice S3 (putG g q p).f3.length yS3] 26)).cell? ⟨gb, 3, none⟩ = some (.slice D3 p.f3.length d3) := (blk_cell (blk_alloc KB.out _) 3).trans rfl
        have zU0_ : (W6.alloc (.cells #[.int .i64 (putG g q p).f0, .slice S1 (putG g q p).f1.length yS1, .slice S2 (putG g q p).f2.length yS2, .slice S3 (putG g q p).f3.length yS3] 26)).cell? ⟨gU, 0, none⟩ = some (.int .i64 (k).f0) := (blk_cell (blk_alloc KU.out _) 0).trans rfl
        have zU1_ : (W6.alloc (.cells #[.int .i64 (putG g q p).f0, .slice S1 (putG g q p).f1.length yS1, .slice S2 (putG g q p).f2.length yS2, .slice S3 (putG g q p).f3.length yS3] 26)).cell? ⟨gU, 1, none⟩ = some (.slice U1 (k).f1.length yU1) := (blk_cell (blk_alloc KU.out _) 1).trans rfl
        have zU2_ : (W6.alloc (.cells #[.int .i64 (putG g q p).f0, .slice S1 (putG g q p).f1.length yS1, .slice S2 (putG g q p).f2.length yS2, .slice S3 (putG g q p).f3.length yS3] 26)).cell? ⟨gU, 2, none⟩ = some (.slice U2 (k).f2.length yU2) := (blk_cell (blk_alloc KU.out _) 2).trans rfl
        have zU3_ : (W6.alloc (.cells #[.int .i64 (putG g q p).f0, .slice S1 (putG g q p).f1.length yS1, .slice S2 (putG g q p).f2.length yS2, .slice S3 (putG g q p).f3.length yS3] 26)).cell? ⟨gU, 3, none⟩ = some (.slice U3 (k).f3.length yU3) := (blk_cell (blk_alloc KU.out _) 3).trans rfl
        go_wp2_with fail
        clear zA0_ zA1_ zA2_ zA3_ zB0_ zB1_ zB2_ zB3_ zU0_ zU1_ zU2_ zU3_
        obtain ⟨gS, hgS_⟩ : ∃ x, x = W6.heap.size := ⟨_, rfl⟩
        obtain ⟨W7, hW7_⟩ : ∃ x, x = W6.alloc (.cells #[.int .i64 (putG g q p).f0, .slice S1 (putG g q p).f1.length yS1, .slice S2 (putG g q p).f2.length yS2, .slice S3 (putG g q p).f3.length yS3] 26) := ⟨_, rfl⟩
        rw [← hW7_, ← hgS_]
        have KS := Aside0.mk (show W7.heap[gS]? = some (.cells #[.int .i64 (putG g q p).f0, .slice S1 (putG g q p).f1.length yS1, .slice S2 (putG g q p).f2.length yS2, .slice S3 (putG g q p).f3.length yS3] 26 (0, 0)) by rw [hW7_, hgS_]; exact World.alloc_heap_new _ _)
        have hb_ : Below W6.heap.size W6 W7 := by rw [hW7_]; exact below_alloc (Below.refl _ _) _
        clear hW7_ hgS_
        have n_ := Aside0.mk (blk_below KA.out hb_)
        clear KA
        have KA := n_
        clear n_
        have n_ := Aside0.mk (blk_below KB.out hb_)
        clear KB
        have KB := n_
        clear n_
        have n_ := Aside0.mk (IA.out.below hb_)
        clear IA
        have IA := n_
        clear n_
        have n_ := Aside0.mk (IB.out.below hb_)
        clear IB
        have IB := n_
        clear n_
        have n_ := Aside0.mk (below_step HB.out hb_)
        clear HB
        have HB := n_
        clear n_
        have n_ := Aside0.mk (IU.out.below hb_)
        clear IU
        have IU := n_
        clear n_
        have n_ := Aside0.mk (blk_below KU.out hb_)
        clear KU
        have KU := n_
        clear n_
        have n_ := Aside0.mk (IS.out.below hb_)
        clear IS
        have IS := n_
        clear n_
        clear hb_
        refine (rPut_calls q (g.bulk + p.bulk) _ _ g p A q.length c W7 IA.out IB.out (Nat.le_refl _) (by omega) rfl HC.out (Kd.C_below HP.out HB.out)).mono ?_
        rintro e W8 ⟨u_, c_, rfl, hr_, hb_⟩
        obtain ⟨hg_, rfl⟩ := hr_.some_ HQ.out
        have hI := hg_.isG
        obtain ⟨Z1, yZ1, Z2, yZ2, Z3, yZ3, rfl, _⟩ := hg_.isG
        have IZ := Aside0.mk hI
        clear hr_ hg_ hI
        have n_ := Aside0.mk (blk_below KA.out hb_)
        clear KA
        have KA := n_
        clear n_
        have n_ := Aside0.mk (blk_below KB.out hb_)
        clear KB
        have KB := n_
        clear n_
        have n_ := Aside0.mk (IA.out.below hb_)
        clear IA
        have IA := n_
        clear n_
        have n_ := Aside0.mk (IB.out.below hb_)
        clear IB
        have IB := n_
        clear n_
        have n_ := Aside0.mk (below_step HB.out hb_)
        clear HB
        have HB := n_
        clear n_
        have n_ := Aside0.mk (IU.out.below hb_)
        clear IU
        have IU := n_
        clear n_
        have n_ := Aside0.mk (blk_below KU.out hb_)
        clear KU
        have KU := n_
        clear n_
        have n_ := Aside0.mk (IS.out.below hb_)
        clear IS
        have IS := n_
        clear n_
        have n_ := Aside0.mk (blk_below KS.out hb_)
        clear KS
        have KS := n_
        clear n_
        clear hb_
        have zA0_ : (W8.alloc (.cells #[.int .i64 (putG g q p).f0, .slice Z1 (putG g q p).f1.length yZ1, .slice Z2 (putG g q p).f2.length yZ2, .slice Z3 (putG g q p).f3.length yZ3] 26)).cell? ⟨ga, 0, none⟩ = some (.int .i64 g.f0) := (blk_cell (blk_alloc KA.out _) 0).trans rfl
        have zA1_ : (W8.alloc (.cells #[.int .i64 (putG g q p).f0, .slice Z1 (putG g q p).f1.length yZ1, .slice Z2 (putG g q p).f2.length yZ2, .slice Z3 (putG g q p).f3.length yZ3] 26)).cell? ⟨ga, 1, none⟩ = some (.slice A1 g.f1.length c1) := (blk_cell (blk_alloc KA.out _) 1).trans rfl
        have zA2_ : (W8.alloc (.cells #[.int .i64 (putG g q p).f0, .slice Z1 (putG g q p).f1.length yZ1, .slice Z2 (putG g q p).f2.length yZ2, .slice Z3 (putG g q p).f3.length yZ3] 26)).cell? ⟨ga, 2, none⟩ = some (.slice A2 g.f2.length c2) := (blk_cell (blk_alloc KA.out _) 2).trans rfl
        have zA3_ : (W8.alloc (.cells #[.int .i64 (putG g q p).f0, .slice Z1 (putG g q p).f1.length yZ1, .slice Z2 (putG g q p).f2.length yZ2, .slice Z3 (putG g q p).f3.length yZ3] 26)).cell? ⟨ga, 3, none⟩ = some (.slice A3 g.f3.length c3) := (blk_cell (blk_alloc KA.out _) 3).trans rfl
        have zB0_ : (W8.alloc (.cells #[.int .i64 (putG g q p).f0, .slice Z1 (putG g q p).f1.length yZ1, .slice Z2 (putG g q p).f2.length yZ2, .slice Z3 (putG g q p).f3.length yZ3] 26)).cell? ⟨gb, 0, none⟩ = some (.int .i64 p.f0) := (blk_cell (blk_alloc KB.out _) 0).trans rfl
        have zB1_ : (W8.alloc (.cells #[.int .i64 (putG g q p).f0, .slice Z1 (putG g q p).f1.length yZ1, .slice Z2 (putG g q p).f2.length yZ2, .slice Z3 (putG g q p).f3.length yZ3] 26)).cell? ⟨gb, 1, none⟩ = some (.slice D1 p.f1.length d1) := (blk_cell (blk_alloc KB.out _) 1).trans rfl
        have zB2_ : (W8.alloc (.cells #[.int .i64 (putG g q p).f0, .slice Z1 (putG g q p).f1.length yZ1, .slice Z2 (putG g q p).f2.length yZ2, .slice Z3 (putG g q p).f3.length yZ3] 26)).cell? ⟨gb, 2, none⟩ = some (.slice D2 p.f2.length d2) := (blk_cell (blk_alloc KB.out _) 2).trans rfl
        have zB3_ : (W8.alloc (.cells #[.int .i64 (putG g q p).f0, .slice Z1 (putG g q p).f1.length yZ1, .slice Z2 (putG g q p).f2.length yZ2, .slice Z3 (putG g q p).f3.length yZ3] 26)).cell? ⟨gb, 3, none⟩ = some (.slice D3 p.f3.length d3) := (blk_cell (blk_alloc KB.out _) 3).trans rfl
        have zU0_ : (W8.alloc (.cells #[.int .i64 (putG g q p).f0, .slice Z1 (putG g q p).f1.length yZ1, .slice Z2 (putG g q p).f2.length yZ2, .slice Z3 (putG g q p).f3.length yZ3] 26)).cell? ⟨gU, 0, none⟩ = some (.int .i64 (k).f0) := (blk_cell (blk_alloc KU.out _) 0).trans rfl
        have zU1_ : (W8.alloc (.cells #[.int .i64 (putG g q p).f0, .slice Z1 (putG g q p).f1.length yZ1, .slice Z2 (putG g q p).f2.length yZ2, .slice Z3 (putG g q p).f3.length yZ3] 26)).cell? ⟨gU, 1, none⟩ = some (.slice U1 (k).f1.length yU1) := (blk_cell (blk_alloc KU.out _) 1).trans rfl
        have zU2_ : (W8.alloc (.cells #[.int .i64 (putG g q p).f0, .slice Z1 (putG g q p).f1.length yZ1, .slice Z2 (putG g q p).f2.length yZ2, .slice Z3 (putG g q p).f3.length yZ3] 26)).cell? ⟨gU, 2, none⟩ = some (.slice U2 (k).f2.length yU2) := (blk_cell (blk_alloc KU.out _) 2).trans rfl
        have zU3_ : (W8.alloc (.cells #[.int .i64 (putG g q p).f0, .slice Z1 (putG g q p).f1.length yZ1, .slice Z2 (putG g q p).f2.length yZ2, .slice Z3 (putG g q p).f3.length yZ3] 26)).cell? ⟨gU, 3, none⟩ = some (.slice U3 (k).f3.length yU3) := (blk_cell (blk_alloc KU.out _) 3).trans rfl
        have zS0_ : (W8.alloc (.cells #[.int .i64 (putG g q p).f0, .slice Z1 (putG g q p).f1.length yZ1, .slice Z2 (putG g q p).f2.length yZ2, .slice Z3 (putG g q p).f3.length yZ3] 26)).cell? ⟨gS, 0, none⟩ = some (.int .i64 (putG g q p).f0) := (blk_cell (blk_alloc KS.out _) 0).trans rfl
        have zS1_ : (W8.alloc (.cells #[.int .i64 (putG g q p).f0, .slice Z1 (putG g q p).f1.length yZ1, .slice Z2 (putG g q p).f2.length yZ2, .slice Z3 (putG g q p).f3.length yZ3] 26)).cell? ⟨gS, 1, none⟩ = some (.slice S1 (putG g q p).f1.length yS1) := (blk_cell (blk_alloc KS.out _) 1).trans rfl
        have zS2_ : (W8.alloc (.cells #[.int .i64 (putG g q p).f0, .slice Z1 (putG g q p).f1.length yZ1, .slice Z2 (putG g q p).f2.length yZ2, .slice Z3 (putG g q p).f3.length yZ3] 26)).cell? ⟨gS, 2, none⟩ = some (.slice S2 (putG g q p).f2.length yS2) := (blk_cell (blk_alloc KS.out _) 2).trans rfl
        have zS3_ : (W8.alloc (.cells #[.int .i64 (putG g q p).f0, .slice Z1 (putG g q p).f1.length yZ1, .slice Z2 (putG g q p).f2.length yZ2, .slice Z3 (putG g q p).f3.length yZ3] 26)).cell? ⟨gS, 3, none⟩ = some (.slice S3 (putG g q p).f3.length yS3) := (blk_cell (blk_alloc KS.out _) 3).trans rfl
        go_wp2_with fail
        clear zA0_ zA1_ zA2_ zA3_ zB0_ zB1_ zB2_ zB3_ zU0_ zU1_ zU2_ zU3_ zS0_ zS1_ zS2_ zS3_
        obtain ⟨gZ, hgZ_⟩ : ∃ x, x = W8.heap.size := ⟨_, rfl⟩
        obtain ⟨W9, hW9_⟩ : ∃ x, x = W8.alloc (.cells #[.int .i64 (putG g q p).f0, .slice Z1 (putG g q p).f1.length yZ1, .slice Z2 (putG g q p).f2.length yZ2, .slice Z3 (putG g q p).f3.length yZ3] 26) := ⟨_, rfl⟩
        rw [← hW9_, ← hgZ_]
        have KZ := Aside0.mk (show W9.heap[gZ]? = some (.cells #[.int .i64 (putG g q p).f0, .slice Z1 (putG g q p).f1.length yZ1, .slice Z2 (putG g q p).f2.length yZ2, .slice Z3 (putG g q p).f3.length yZ3] 26 (0, 0)) by rw [hW9_, hgZ_]; exact World.alloc_heap_new _ _)
        have hb_ : Below W8.heap.size W8 W9 := by rw [hW9_]; exact below_alloc (Below.refl _ _) _
        clear hW9_ hgZ_
        have n_ := Aside0.mk (blk_below KA.out hb_)
        clear KA
        have KA := n_
        clear n_
        have n_ := Aside0.mk (blk_below KB.out hb_)
        clear KB
        have KB := n_
        clear n_
        have n_ := Aside0.mk (IA.out.below hb_)
        clear IA
        have IA := n_
        clear n_
        have n_ := Aside0.mk (IB.out.below hb_)
        clear IB
        have IB := n_
        clear n_
        have n_ := Aside0.mk (below_step HB.out hb_)
        clear HB
        have HB := n_
        clear n_
        have n_ := Aside0.mk (IU.out.below hb_)
        clear IU
        have IU := n_
        clear n_
        have n_ := Aside0.mk (blk_below KU.out hb_)
        clear KU
        have KU := n_
        clear n_
        have n_ := Aside0.mk (IS.out.below hb_)
        clear IS
        have IS := n_
        clear n_
        have n_ := Aside0.mk (blk_below KS.out hb_)
        clear KS
        have KS := n_
        clear n_
        have n_ := Aside0.mk (IZ.out.below hb_)
        clear IZ
        have IZ := n_
        clear n_
        clear hb_
        refine (small_calls _ (putG g q p) W9 IZ.out (by omega)).mono ?_
        rintro e W10 ⟨rfl, hb_⟩
        have n_ := Aside0.mk (blk_below KA.out hb_)
        clear KA
        have KA := n_
        clear n_
        have n_ := Aside0.mk (blk_below KB.out hb_)
        clear KB
        have KB := n_
        clear n_
        have n_ := Aside0.mk (IA.out.below hb_)
        clear IA
        have IA := n_
        clear n_
        have n_ := Aside0.mk (IB.out.below hb_)
        clear IB
        have IB := n_
        clear n_
        have n_ := Aside0.mk (below_step HB.out hb_)
        clear HB
        have HB := n_
        clear n_
        have n_ := Aside0.mk (IU.out.below hb_)
        clear IU
        have IU := n_
        clear n_
        have n_ := Aside0.mk (blk_below KU.out hb_)
        clear KU
        have KU := n_
        clear n_
        have n_ := Aside0.mk (IS.out.below hb_)
        clear IS
        have IS := n_
        clear n_
        have n_ := Aside0.mk (blk_below KS.out hb_)
        clear KS
        have KS := n_
        clear n_
        have n_ := Aside0.mk (IZ.out.below hb_)
        clear IZ
        have IZ := n_
        clear n_
        have n_ := Aside0.mk (blk_below KZ.out hb_)
        clear KZ
        have KZ := n_
        clear n_
        clear hb_
        have zA0_ : W10.cell? ⟨ga, 0, none⟩ = some (.int .i64 g.f0) := (blk_cell KA.out 0).trans rfl
        have zA1_ : W10.cell? ⟨ga, 1, none⟩ = some (.slice A1 g.f1.length c1) := (blk_cell KA.out 1).trans rfl
        have zA2_ : W10.cell? ⟨ga, 2, none⟩ = some (.slice A2 g.f2.length c2) := (blk_cell KA.out 2).trans rfl
        have zA3_ : W10.cell? ⟨ga, 3, none⟩ = some (.slice A3 g.f3.length c3) := (blk_cell KA.out 3).trans rfl
        have zB0_ : W10.cell? ⟨gb, 0, none⟩ = some (.int .i64 p.f0) := (blk_cell KB.out 0).trans rfl
        have zB1_ : W10.cell? ⟨gb, 1, none⟩ = some (.slice D1 p.f1.length d1) := (blk_cell KB.out 1).trans rfl
        have zB2_ : W10.cell? ⟨gb, 2, none⟩ = some (.slice D2 p.f2.length d2) := (blk_cell KB.out 2).trans rfl
        have zB3_ : W10.cell? ⟨gb, 3, none⟩ = some (.slice D3 p.f3.length d3) := (blk_cell KB.out 3).trans rfl
        have zU0_ : W10.cell? ⟨gU, 0, none⟩ = some (.int .i64 (k).f0) := (blk_cell KU.out 0).trans rfl
        have zU1_ : W10.cell? ⟨gU, 1, none⟩ = some (.slice U1 (k).f1.length yU1) := (blk_cell KU.out 1).trans rfl
        have zU2_ : W10.cell? ⟨gU, 2, none⟩ = some (.slice U2 (k).f2.length yU2) := (blk_cell KU.out 2).trans rfl
        have zU3_ : W10.cell? ⟨gU, 3, none⟩ = some (.slice U3 (k).f3.length yU3) := (blk_cell KU.out 3).trans rfl
        have zS0_ : W10.cell? ⟨gS, 0, none⟩ = some (.int .i64 (putG g q p).f0) := (blk_cell KS.out 0).trans rfl
        have zS1_ : W10.cell? ⟨gS, 1, none⟩ = some (.slice S1 (putG g q p).f1.length yS1) := (blk_cell KS.out 1).trans rfl
        have zS2_ : W10.cell? ⟨gS, 2, none⟩ = some (.slice S2 (putG g q p).f2.length yS2) := (blk_cell KS.out 2).trans rfl
        have zS3_ : W10.cell? ⟨gS, 3, none⟩ = some (.slice S3 (putG g q p).f3.length yS3) := (blk_cell KS.out 3).trans rfl
        have zZ0_ : W10.cell? ⟨gZ, 0, none⟩ = some (.int .i64 (putG g q p).f0) := (blk_cell KZ.out 0).trans rfl
        have zZ1_ : W10.cell? ⟨gZ, 1, none⟩ = some (.slice Z1 (putG g q p).f1.length yZ1) := (blk_cell KZ.out 1).trans rfl
        have zZ2_ : W10.cell? ⟨gZ, 2, none⟩ = some (.slice Z2 (putG g q p).f2.length yZ2) := (blk_cell KZ.out 2).trans rfl
        have zZ3_ : W10.cell? ⟨gZ, 3, none⟩ = some (.slice Z3 (putG g q p).f3.length yZ3) := (blk_cell KZ.out 3).trans rfl
        cases hs3 : isSmall (putG g q p) with
        | false =>
          go_wp2_with fail
          go_ret
          exact ⟨rfl, HB.out⟩
        | true =>
          clear hs3
          go_wp2_with fail
          clear zA0_ zA1_ zA2_ zA3_ zB0_ zB1_ zB2_ zB3_ zU0_ zU1_ zU2_ zU3_ zS0_ zS1_ zS2_ zS3_ zZ0_ zZ1_ zZ2_ zZ3_
          refine (Find_calls _ (putG g q p) A q.length c q W10 IS.out (by omega) rfl (Kd.C_below HP.out HB.out)).mono ?_
          rintro e W11 ⟨u_, c_, rfl, hr_, hb_⟩
          obtain ⟨hg_, rfl⟩ := hr_.some_ HQP.out
          have hI := hg_.isG
          obtain ⟨N1, yN1, N2, yN2, N3, yN3, rfl, _⟩ := hg_.isG
          have IN := Aside0.mk hI
          clear hr_ hg_ hI
          have n_ := Aside0.mk (blk_below KA.out hb_)
          clear KA
          have KA := n_
          clear n_
          have n_ := Aside0.mk (blk_below KB.out hb_)
          clear KB
          have KB := n_
          clear n_
          have n_ := Aside0.mk (IA.out.below hb_)
          clear IA
          have IA := n_
          clear n_
          have n_ := Aside0.mk (IB.out.below hb_)
          clear IB
          have IB := n_
          clear n_
          have n_ := Aside0.mk (below_step HB.out hb_)
          clear HB
          have HB := n_
          clear n_
          have n_ := Aside0.mk (IU.out.below hb_)
          clear IU
          have IU := n_
          clear n_
          have n_ := Aside0.mk (blk_below KU.out hb_)
          clear KU
          have KU := n_
          clear n_
          have n_ := Aside0.mk (IS.out.below hb_)
          clear IS
          have IS := n_
          clear n_
          have n_ := Aside0.mk (blk_below KS.out hb_)
          clear KS
          have KS := n_
          clear n_
          have n_ := Aside0.mk (IZ.out.below hb_)
          clear IZ
          have IZ := n_
          clear n_
          have n_ := Aside0.mk (blk_below KZ.out hb_)
          clear KZ
          have KZ := n_
          clear n_
          clear hb_
          have zA0_ : (W11.alloc (.cells #[.int .i64 (p).f0, .slice N1 (p).f1.length yN1, .slice N2 (p).f2.length yN2, .slice N3 (p).f3.length yN3] 26)).cell? ⟨ga, 0, none⟩ = some (.int .i64 g.f0) := (blk_cell (blk_alloc KA.out _) 0).trans rfl
          have zA1_ : (W11.alloc (.cells #[.int .i64 (p).f0, .slice N1 (p).f1.length yN1, .slice N2 (p).f2.length yN2, .slice N3 (p).f3.length yN3] 26)).cell? ⟨ga, 1, none⟩ = some (.slice A1 g.f1.length c1) := (blk_cell (blk_alloc KA.out _) 1).trans rfl
          have zA2_ : (W11.alloc (.cells #[.int .i64 (p).f0, .slice N1 (p).f1.length yN1, .slice N2 (p).f2.length yN2, .slice N3 (p).f3.length yN3] 26)).cell? ⟨ga, 2, none⟩ = some (.slice A2 g.f2.length c2) := (blk_cell (blk_alloc KA.out _) 2).trans rfl
          have zA3_ : (W11.alloc (.cells #[.int .i64 (p).f0, .slice N1 (p).f1.length yN1, .slice N2 (p).f2.length yN2, .slice N3 (p).f3.length yN3] 26)).cell? ⟨ga, 3, none⟩ = some (.slice A3 g.f3.length c3) := (blk_cell (blk_alloc KA.out _) 3).trans rfl
          have zB0_ : (W11.alloc (.cells #[.int .i64 (p).f0, .slice N1 (p).f1.length yN1, .slice N2 (p).f2.length yN2, .slice N3 (p).f3.length yN3] 26)).cell? ⟨gb, 0, none⟩ = some (.int .i64 p.f0) := (blk_cell (blk_alloc KB.out _) 0).trans rfl
          have zB1_ : (W11.alloc (.cells #[.int .i64 (p).f0, .slice N1 (p).f1.length yN1, .slice N2 (p).f2.length yN2, .slice N3 (p).f3.length yN3] 26)).cell? ⟨gb, 1, none⟩ = some (.slice D1 p.f1.length d1) := (blk_cell (blk_alloc KB.out _) 1).trans rfl
          have zB2_ : (W11.alloc (.cells #[.int .i64 (p).f0, .slice N1 (p).f1.length yN1, .slice N2 (p).f2.length yN2, .slice N3 (p).f3.length yN3] 26)).cell? ⟨gb, 2, none⟩ = some (.slice D2 p.f2.length d2) := (blk_cell (blk_alloc KB.out _) 2).trans rfl
          have zB3_ : (W11.alloc (.cells #[.int .i64 (p).f0, .slice N1 (p).f1.length yN1, .slice N2 (p).f2.length yN2, .slice N3 (p).f3.length yN3] 26)).cell? ⟨gb, 3, none⟩ = some (.slice D3 p.f3.length d3) := (blk_cell (blk_alloc KB.out _) 3).trans rfl
          have zU0_ : (W11.alloc (.cells #[.int .i64 (p).f0, .slice N1 (p).f1.length yN1, .slice N2 (p).f2.length yN2, .slice N3 (p).f3.length yN3] 26)).cell? ⟨gU, 0, none⟩ = some (.int .i64 (k).f0) := (blk_cell (blk_alloc KU.out _) 0).trans rfl
          have zU1_ : (W11.alloc (.cells #[.int .i64 (p).f0, .slice N1 (p).f1.length yN1, .slice N2 (p).f2.length yN2, .slice N3 (p).f3.length yN3] 26)).cell? ⟨gU, 1, none⟩ = some (.slice U1 (k).f1.length yU1) := (blk_cell (blk_alloc KU.out _) 1).trans rfl
          have zU2_ : (W11.alloc (.cells #[.int .i64 (p).f0, .slice N1 (p).f1.length yN1, .slice N2 (p).f2.length yN2, .slice N3 (p).f3.length yN3] 26)).cell? ⟨gU, 2, none⟩ = some (.slice U2 (k).f2.length yU2) := (blk_cell (blk_alloc KU.out _) 2).trans rfl
          have zU3_ : (W11.alloc (.cells #[.int .i64 (p).f0, .slice N1 (p).f1.length yN1, .slice N2 (p).f2.length yN2, .slice N3 (p).f3.length yN3] 26)).cell? ⟨gU, 3, none⟩ = some (.slice U3 (k).f3.length yU3) := (blk_cell (blk_alloc KU.out _) 3).trans rfl
          have zS0_ : (W11.alloc (.cells #[.int .i64 (p).f0, .slice N1 (p).f1.length yN1, .slice N2 (p).f2.length yN2, .slice N3 (p).f3.length yN3] 26)).cell? ⟨gS, 0, none⟩ = some (.int .i64 (putG g q p).f0) := (blk_cell (blk_alloc KS.out _) 0).trans rfl
          have zS1_ : (W11.alloc (.cells #[.int .i64 (p).f0, .slice N1 (p).f1.length yN1, .slice N2 (p).f2.length yN2, .slice N3 (p).f3.length yN3] 26)).cell? ⟨gS, 1, none⟩ = some (.slice S1 (putG g q p).f1.length yS1) := (blk_cell (blk_alloc KS.out _) 1).trans rfl
          have zS2_ : (W11.alloc (.cells #[.int .i64 (p).f0, .slice N1 (p).f1.length yN1, .slice N2 (p).f2.length yN2, .slice N3 (p).f3.length yN3] 26)).cell? ⟨gS, 2, none⟩ = some (.slice S2 (putG g q p).f2.length yS2) := (blk_cell (blk_alloc KS.out _) 2).trans rfl
          have zS3_ : (W11.alloc (.cells #[.int .i64 (p).f0, .slice N1 (p).f1.length yN1, .slice N2 (p).f2.length yN2, .slice N3 (p).f3.length yN3] 26)).cell? ⟨gS, 3, none⟩ = some (.slice S3 (putG g q p).f3.length yS3) := (blk_cell (blk_alloc KS.out _) 3).trans rfl
          have zZ0_ : (W11.alloc (.cells #[.int .i64 (p).f0, .slice N1 (p).f1.length yN1, .slice N2 (p).f2.length yN2, .slice N3 (p).f3.length yN3] 26)).cell? ⟨gZ, 0, none⟩ = some (.int .i64 (putG g q p).f0) := (blk_cell (blk_alloc KZ.out _) 0).trans rfl
          have zZ1_ : (W11.alloc (.cells #[.int .i64 (p).f0, .slice N1 (p).f1.length yN1, .slice N2 (p).f2.length yN2, .slice N3 (p).f3.length yN3] 26)).cell? ⟨gZ, 1, none⟩ = some (.slice Z1 (putG g q p).f1.length yZ1) := (blk_cell (blk_alloc KZ.out _) 1).trans rfl
          have zZ2_ : (W11.alloc (.cells #[.int .i64 (p).f0, .slice N1 (p).f1.length yN1, .slice N2 (p).f2.length yN2, .slice N3 (p).f3.length yN3] 26)).cell? ⟨gZ, 2, none⟩ = some (.slice Z2 (putG g q p).f2.length yZ2) := (blk_cell (blk_alloc KZ.out _) 2).trans rfl
          have zZ3_ : (W11.alloc (.cells #[.int .i64 (p).f0, .slice N1 (p).f1.length yN1, .slice N2 (p).f2.length yN2, .slice N3 (p).f3.length yN3] 26)).cell? ⟨gZ, 3, none⟩ = some (.slice Z3 (putG g q p).f3.length yZ3) := (blk_cell (blk_alloc KZ.out _) 3).trans rfl
          go_wp2_with fail
          clear zA0_ zA1_ zA2_ zA3_ zB0_ zB1_ zB2_ zB3_ zU0_ zU1_ zU2_ zU3_ zS0_ zS1_ zS2_ zS3_ zZ0_ zZ1_ zZ2_ zZ3_
          obtain ⟨gN, hgN_⟩ : ∃ x, x = W11.heap.size := ⟨_, rfl⟩
          obtain ⟨W12, hW12_⟩ : ∃ x, x = W11.alloc (.cells #[.int .i64 (p).f0, .slice N1 (p).f1.length yN1, .slice N2 (p).f2.length yN2, .slice N3 (p).f3.length yN3] 26) := ⟨_, rfl⟩
          rw [← hW12_, ← hgN_]
          have KN := Aside0.mk (show W12.heap[gN]? = some (.cells #[.int .i64 (p).f0, .slice N1 (p).f1.length yN1, .slice N2 (p).f2.length yN2, .slice N3 (p).f3.length yN3] 26 (0, 0)) by rw [hW12_, hgN_]; exact World.alloc_heap_new _ _)
          have hb_ : Below W11.heap.size W11 W12 := by rw [hW12_]; exact below_alloc (Below.refl _ _) _
          clear hW12_ hgN_
          have n_ := Aside0.mk (blk_below KA.out hb_)
          clear KA
          have KA := n_
          clear n_
          have n_ := Aside0.mk (blk_below KB.out hb_)
          clear KB
          have KB := n_
          clear n_
          have n_ := Aside0.mk (IA.out.below hb_)
          clear IA
          have IA := n_
          clear n_
          have n_ := Aside0.mk (IB.out.below hb_)
          clear IB
          have IB := n_
          clear n_
          have n_ := Aside0.mk (below_step HB.out hb_)
          clear HB
          have HB := n_
          clear n_
          have n_ := Aside0.mk (IU.out.below hb_)
          clear IU
          have IU := n_
          clear n_
          have n_ := Aside0.mk (blk_below KU.out hb_)
          clear KU
          have KU := n_
          clear n_
          have n_ := Aside0.mk (IS.out.below hb_)
          clear IS
          have IS := n_
          clear n_
          have n_ := Aside0.mk (blk_below KS.out hb_)
          clear KS
          have KS := n_
          clear n_
          have n_ := Aside0.mk (IZ.out.below hb_)
          clear IZ
          have IZ := n_
          clear n_
          have n_ := Aside0.mk (blk_below KZ.out hb_)
          clear KZ
          have KZ := n_
          clear n_
          have n_ := Aside0.mk (IN.out.below hb_)
          clear IN
          have IN := n_
          clear n_
          clear hb_
          refine (Put_calls _ _ g k A q.length c q W12 IA.out IU.out (by omega) rfl (Kd.C_below HP.out HB.out)).mono ?_
          rintro e W13 ⟨u_, c_, rfl, hr_, hb_⟩
          obtain ⟨hg_, rfl⟩ := hr_.some_ HQ.out
          rw [HSM.out] at hg_
          have hI := hg_.isG
          obtain ⟨M1, yM1, M2, yM2, M3, yM3, rfl, _⟩ := hg_.isG
          have IM := Aside0.mk hI
          clear hr_ hg_ hI
          have n_ := Aside0.mk (blk_below KA.out hb_)
          clear KA
          have KA := n_
          clear n_
          have n_ := Aside0.mk (blk_below KB.out hb_)
          clear KB
          have KB := n_
          clear n_
          have n_ := Aside0.mk (IA.out.below hb_)
          clear IA
          have IA := n_
          clear n_
          have n_ := Aside0.mk (IB.out.below hb_)
          clear IB
          have IB := n_
          clear n_
          have n_ := Aside0.mk (below_step HB.out hb_)
          clear HB
          have HB := n_
          clear n_
          have n_ := Aside0.mk (IU.out.below hb_)
          clear IU
          have IU := n_
          clear n_
          have n_ := Aside0.mk (blk_below KU.out hb_)
          clear KU
          have KU := n_
          clear n_
          have n_ := Aside0.mk (IS.out.below hb_)
          clear IS
          have IS := n_
          clear n_
          have n_ := Aside0.mk (blk_below KS.out hb_)
          clear KS
          have KS := n_
          clear n_
          have n_ := Aside0.mk (IZ.out.below hb_)
          clear IZ
          have IZ := n_
          clear n_
          have n_ := Aside0.mk (blk_below KZ.out hb_)
          clear KZ
          have KZ := n_
          clear n_
          have n_ := Aside0.mk (IN.out.below hb_)
          clear IN
          have IN := n_
          clear n_
          have n_ := Aside0.mk (blk_below KN.out hb_)
          clear KN
          have KN := n_
          clear n_
          clear hb_
          have zA0_ : (W13.alloc (.cells #[.int .i64 (g).f0, .slice M1 (g).f1.length yM1, .slice M2 (g).f2.length yM2, .slice M3 (g).f3.length yM3] 26)).cell? ⟨ga, 0, none⟩ = some (.int .i64 g.f0) := (blk_cell (blk_alloc KA.out _) 0).trans rfl
          have zA1_ : (W13.alloc (.cells #[.int .i64 (g).f0, .slice M1 (g).f1.length yM1, .slice M2 (g).f2.length yM2, .slice M3 (g).f3.length yM3] 26)).cell? ⟨ga, 1, none⟩ = some (.slice A1 g.f1.length c1) := (blk_cell (blk_alloc KA.out _) 1).trans rfl
          have zA2_ : (W13.alloc (.cells #[.int .i64 (g).f0, .slice M1 (g).f1.length yM1, .slice M2 (g).f2.length yM2, .slice M3 (g).f3.length yM3] 26)).cell? ⟨ga, 2, none⟩ = some (.slice A2 g.f2.length c2) := (blk_cell (blk_alloc KA.out _) 2).trans rfl
          have zA3_ : (W13.alloc (.cells #[.int .i64 (g).f0, .slice M1 (g).f1.length yM1, .slice M2 (g).f2.length yM2, .slice M3 (g).f3.length yM3] 26)).cell? ⟨ga, 3, none⟩ = some (.slice A3 g.f3.length c3) := (blk_cell (blk_alloc KA.out _) 3).trans rfl
          have zB0_ : (W13.alloc (.cells #[.int .i64 (g).f0, .slice M1 (g).f1.length yM1, .slice M2 (g).f2.length yM2, .slice M3 (g).f3.length yM3] 26)).cell? ⟨gb, 0, none⟩ = some (.int .i64 p.f0) := (blk_cell (blk_alloc KB.out _) 0).trans rfl
          have zB1_ : (W13.alloc (.cells #[.int .i64 (g).f0, .slice M1 (g).f1.length yM1, .slice M2 (g).f2.length yM2, .slice M3 (g).f3.length yM3] 26)).cell? ⟨gb, 1, none⟩ = some (.slice D1 p.f1.length d1) := (blk_cell (blk_alloc KB.out _) 1).trans rfl
          have zB2_ : (W13.alloc (.cells #[.int .i64 (g).f0, .slice M1 (g).f1.length yM1, .slice M2 (g).f2.length yM2, .slice M3 (g).f3.length yM3] 26)).cell? ⟨gb, 2, none⟩ = some (.slice D2 p.f2.length d2) := (blk_cell (blk_alloc KB.out _) 2).trans rfl
          have zB3_ : (W13.alloc (.cells #[.int .i64 (g).f0, .slice M1 (g).f1.length yM1, .slice M2 (g).f2.length yM2, .slice M3 (g).f3.length yM3] 26)).cell? ⟨gb, 3, none⟩ = some (.slice D3 p.f3.length d3) := (blk_cell (blk_alloc KB.out _) 3).trans rfl
          have zU0_ : (W13.alloc (.cells #[.int .i64 (g).f0, .slice M1 (g).f1.length yM1, .slice M2 (g).f2.length yM2, .slice M3 (g).f3.length yM3] 26)).cell? ⟨gU, 0, none⟩ = some (.int .i64 (k).f0) := (blk_cell (blk_alloc KU.out _) 0).trans rfl
          have zU1_ : (W13.alloc (.cells #[.int .i64 (g).f0, .slice M1 (g).f1.length yM1, .slice M2 (g).f2.length yM2, .slice M3 (g).f3.length yM3] 26)).cell? ⟨gU, 1, none⟩ = some (.slice U1 (k).f1.length yU1) := (blk_cell (blk_alloc KU.out _) 1).trans rfl
          have zU2_ : (W13.alloc (.cells #[.int .i64 (g).f0, .slice M1 (g).f1.length yM1, .slice M2 (g).f2.length yM2, .slice M3 (g).f3.length yM3] 26)).cell? ⟨gU, 2, none⟩ = some (.slice U2 (k).f2.length yU2) := (blk_cell (blk_alloc KU.out _) 2).trans rfl
          have zU3_ : (W13.alloc (.cells #[.int .i64 (g).f0, .slice M1 (g).f1.length yM1, .slice M2 (g).f2.length yM2, .slice M3 (g).f3.length yM3] 26)).cell? ⟨gU, 3, none⟩ = some (.slice U3 (k).f3.length yU3) := (blk_cell (blk_alloc KU.out _) 3).trans rfl
          have zS0_ : (W13.alloc (.cells #[.int .i64 (g).f0, .slice M1 (g).f1.length yM1, .slice M2 (g).f2.length yM2, .slice M3 (g).f3.length yM3] 26)).cell? ⟨gS, 0, none⟩ = some (.int .i64 (putG g q p).f0) := (blk_cell (blk_alloc KS.out _) 0).trans rfl
          have zS1_ : (W13.alloc (.cells #[.int .i64 (g).f0, .slice M1 (g).f1.length yM1, .slice M2 (g).f2.length yM2, .slice M3 (g).f3.length yM3] 26)).cell? ⟨gS, 1, none⟩ = some (.slice S1 (putG g q p).f1.length yS1) := (blk_cell (blk_alloc KS.out _) 1).trans rfl
          have zS2_ : (W13.alloc (.cells #[.int .i64 (g).f0, .slice M1 (g).f1.length yM1, .slice M2 (g).f2.length yM2, .slice M3 (g).f3.length yM3] 26)).cell? ⟨gS, 2, none⟩ = some (.slice S2 (putG g q p).f2.length yS2) := (blk_cell (blk_alloc KS.out _) 2).trans rfl
          have zS3_ : (W13.alloc (.cells #[.int .i64 (g).f0, .slice M1 (g).f1.length yM1, .slice M2 (g).f2.length yM2, .slice M3 (g).f3.length yM3] 26)).cell? ⟨gS, 3, none⟩ = some (.slice S3 (putG g q p).f3.length yS3) := (blk_cell (blk_alloc KS.out _) 3).trans rfl
          have zZ0_ : (W13.alloc (.cells #[.int .i64 (g).f0, .slice M1 (g).f1.length yM1, .slice M2 (g).f2.length yM2, .slice M3 (g).f3.length yM3] 26)).cell? ⟨gZ, 0, none⟩ = some (.int .i64 (putG g q p).f0) := (blk_cell (blk_alloc KZ.out _) 0).trans rfl
          have zZ1_ : (W13.alloc (.cells #[.int .i64 (g).f0, .slice M1 (g).f1.length yM1, .slice M2 (g).f2.length yM2, .slice M3 (g).f3.length yM3] 26)).cell? ⟨gZ, 1, none⟩ = some (.slice Z1 (putG g q p).f1.length yZ1) := (blk_cell (blk_alloc KZ.out _) 1).trans rfl
          have zZ2_ : (W13.alloc (.cells #[.int .i64 (g).f0, .slice M1 (g).f1.length yM1, .slice M2 (g).f2.length yM2, .slice M3 (g).f3.length yM3] 26)).cell? ⟨gZ, 2, none⟩ = some (.slice Z2 (putG g q p).f2.length yZ2) := (blk_cell (blk_alloc KZ.out _) 2).trans rfl
          have zZ3_ : (W13.alloc (.cells #[.int .i64 (g).f0, .slice M1 (g).f1.length yM1, .slice M2 (g).f2.length yM2, .slice M3 (g).f3.length yM3] 26)).cell? ⟨gZ, 3, none⟩ = some (.slice Z3 (putG g q p).f3.length yZ3) := (blk_cell (blk_alloc KZ.out _) 3).trans rfl
          have zN0_ : (W13.alloc (.cells #[.int .i64 (g).f0, .slice M1 (g).f1.length yM1, .slice M2 (g).f2.length yM2, .slice M3 (g).f3.length yM3] 26)).cell? ⟨gN, 0, none⟩ = some (.int .i64 (p).f0) := (blk_cell (blk_alloc KN.out _) 0).trans rfl
          have zN1_ : (W13.alloc (.cells #[.int .i64 (g).f0, .slice M1 (g).f1.length yM1, .slice M2 (g).f2.length yM2, .slice M3 (g).f3.length yM3] 26)).cell? ⟨gN, 1, none⟩ = some (.slice N1 (p).f1.length yN1) := (blk_cell (blk_alloc KN.out _) 1).trans rfl
          have zN2_ : (W13.alloc (.cells #[.int .i64 (g).f0, .slice M1 (g).f1.length yM1, .slice M2 (g).f2.length yM2, .slice M3 (g).f3.length yM3] 26)).cell? ⟨gN, 2, none⟩ = some (.slice N2 (p).f2.length yN2) := (blk_cell (blk_alloc KN.out _) 2).trans rfl
          have zN3_ : (W13.alloc (.cells #[.int .i64 (g).f0, .slice M1 (g).f1.length yM1, .slice M2 (g).f2.length yM2, .slice M3 (g).f3.length yM3] 26)).cell? ⟨gN, 3, none⟩ = some (.slice N3 (p).f3.length yN3) := (blk_cell (blk_alloc KN.out _) 3).trans rfl
          go_wp2_with fail
          clear zA0_ zA1_ zA2_ zA3_ zB0_ zB1_ zB2_ zB3_ zU0_ zU1_ zU2_ zU3_ zS0_ zS1_ zS2_ zS3_ zZ0_ zZ1_ zZ2_ zZ3_ zN0_ zN1_ zN2_ zN3_
          obtain ⟨gM, hgM_⟩ : ∃ x, x = W13.heap.size := ⟨_, rfl⟩
          obtain ⟨W14, hW14_⟩ : ∃ x, x = W13.alloc (.cells #[.int .i64 (g).f0, .slice M1 (g).f1.length yM1, .slice M2 (g).f2.length yM2, .slice M3 (g).f3.length yM3] 26) := ⟨_, rfl⟩
          rw [← hW14_, ← hgM_]
          have KM := Aside0.mk (show W14.heap[gM]? = some (.cells #[.int .i64 (g).f0, .slice M1 (g).f1.length yM1, .slice M2 (g).f2.length yM2, .slice M3 (g).f3.length yM3] 26 (0, 0)) by rw [hW14_, hgM_]; exact World.alloc_heap_new _ _)
          have hb_ : Below W13.heap.size W13 W14 := by rw [hW14_]; exact below_alloc (Below.refl _ _) _
          clear hW14_ hgM_
          have n_ := Aside0.mk (blk_below KA.out hb_)
          clear KA
          have KA := n_
          clear n_
          have n_ := Aside0.mk (blk_below KB.out hb_)
          clear KB
          have KB := n_
          clear n_
          have n_ := Aside0.mk (IA.out.below hb_)
          clear IA
          have IA := n_
          clear n_
          have n_ := Aside0.mk (IB.out.below hb_)
          clear IB
          have IB := n_
          clear n_
          have n_ := Aside0.mk (below_step HB.out hb_)
          clear HB
          have HB := n_
          clear n_
          have n_ := Aside0.mk (IU.out.below hb_)
          clear IU
          have IU := n_
          clear n_
          have n_ := Aside0.mk (blk_below KU.out hb_)
          clear KU
          have KU := n_
          clear n_
          have n_ := Aside0.mk (IS.out.below hb_)
          clear IS
          have IS := n_
          clear n_
          have n_ := Aside0.mk (blk_below KS.out hb_)
          clear KS
          have KS := n_
          clear n_
          have n_ := Aside0.mk (IZ.out.below hb_)
          clear IZ
          have IZ := n_
          clear n_
          have n_ := Aside0.mk (blk_below KZ.out hb_)
          clear KZ
          have KZ := n_
          clear n_
          have n_ := Aside0.mk (IN.out.below hb_)
          clear IN
          have IN := n_
          clear n_
          have n_ := Aside0.mk (blk_below KN.out hb_)
          clear KN
          have KN := n_
          clear n_
          have n_ := Aside0.mk (IM.out.below hb_)
          clear IM
          have IM := n_
          clear n_
          clear hb_
          refine (equal_calls p.bulk _ _ p p W14 IN.out IB.out (Nat.le_refl _) (by omega) (by omega)).mono ?_
          rintro e W15 ⟨rfl, hb_⟩
          rw [eqG_true rfl]
          have n_ := Aside0.mk (blk_below KA.out hb_)
          clear KA
          have KA := n_
          clear n_
          have n_ := Aside0.mk (blk_below KB.out hb_)
          clear KB
          have KB := n_
          clear n_
          have n_ := Aside0.mk (IA.out.below hb_)
          clear IA
          have IA := n_
          clear n_
          have n_ := Aside0.mk (IB.out.below hb_)
          clear IB
          have IB := n_
          clear n_
          have n_ := Aside0.mk (below_step HB.out hb_)
          clear HB
          have HB := n_
          clear n_
          have n_ := Aside0.mk (IU.out.below hb_)
          clear IU
          have IU := n_
          clear n_
          have n_ := Aside0.mk (blk_below KU.out hb_)
          clear KU
          have KU := n_
          clear n_
          have n_ := Aside0.mk (IS.out.below hb_)
          clear IS
          have IS := n_
          clear n_
          have n_ := Aside0.mk (blk_below KS.out hb_)
          clear KS
          have KS := n_
          clear n_
          have n_ := Aside0.mk (IZ.out.below hb_)
          clear IZ
          have IZ := n_
          clear n_
          have n_ := Aside0.mk (blk_below KZ.out hb_)
          clear KZ
          have KZ := n_
          clear n_
          have n_ := Aside0.mk (IN.out.below hb_)
          clear IN
          have IN := n_
          clear n_
          have n_ := Aside0.mk (blk_below KN.out hb_)
          clear KN
          have KN := n_
          clear n_
          have n_ := Aside0.mk (IM.out.below hb_)
          clear IM
          have IM := n_
          clear n_
          have n_ := Aside0.mk (blk_below KM.out hb_)
          clear KM
          have KM := n_
          clear n_
          clear hb_
          have zA0_ : W15.cell? ⟨ga, 0, none⟩ = some (.int .i64 g.f0) := (blk_cell KA.out 0).trans rfl
          have zA1_ : W15.cell? ⟨ga, 1, none⟩ = some (.slice A1 g.f1.length c1) := (blk_cell KA.out 1).trans rfl
          have zA2_ : W15.cell? ⟨ga, 2, none⟩ = some (.slice A2 g.f2.length c2) := (blk_cell KA.out 2).trans rfl
          have zA3_ : W15.cell? ⟨ga, 3, none⟩ = some (.slice A3 g.f3.length c3) := (blk_cell KA.out 3).trans rfl
          have zB0_ : W15.cell? ⟨gb, 0, none⟩ = some (.int .i64 p.f0) := (blk_cell KB.out 0).trans rfl
          have zB1_ : W15.cell? ⟨gb, 1, none⟩ = some (.slice D1 p.f1.length d1) := (blk_cell KB.out 1).trans rfl
          have zB2_ : W15.cell? ⟨gb, 2, none⟩ = some (.slice D2 p.f2.length d2) := (blk_cell KB.out 2).trans rfl
          have zB3_ : W15.cell? ⟨gb, 3, none⟩ = some (.slice D3 p.f3.length d3) := (blk_cell KB.out 3).trans rfl
          have zU0_ : W15.cell? ⟨gU, 0, none⟩ = some (.int .i64 (k).f0) := (blk_cell KU.out 0).trans rfl
          have zU1_ : W15.cell? ⟨gU, 1, none⟩ = some (.slice U1 (k).f1.length yU1) := (blk_cell KU.out 1).trans rfl
          have zU2_ : W15.cell? ⟨gU, 2, none⟩ = some (.slice U2 (k).f2.length yU2) := (blk_cell KU.out 2).trans rfl
          have zU3_ : W15.cell? ⟨gU, 3, none⟩ = some (.slice U3 (k).f3.length yU3) := (blk_cell KU.out 3).trans rfl
          have zS0_ : W15.cell? ⟨gS, 0, none⟩ = some (.int .i64 (putG g q p).f0) := (blk_cell KS.out 0).trans rfl
          have zS1_ : W15.cell? ⟨gS, 1, none⟩ = some (.slice S1 (putG g q p).f1.length yS1) := (blk_cell KS.out 1).trans rfl
          have zS2_ : W15.cell? ⟨gS, 2, none⟩ = some (.slice S2 (putG g q p).f2.length yS2) := (blk_cell KS.out 2).trans rfl
          have zS3_ : W15.cell? ⟨gS, 3, none⟩ = some (.slice S3 (putG g q p).f3.length yS3) := (blk_cell KS.out 3).trans rfl
          have zZ0_ : W15.cell? ⟨gZ, 0, none⟩ = some (.int .i64 (putG g q p).f0) := (blk_cell KZ.out 0).trans rfl
          have zZ1_ : W15.cell? ⟨gZ, 1, none⟩ = some (.slice Z1 (putG g q p).f1.length yZ1) := (blk_cell KZ.out 1).trans rfl
          have zZ2_ : W15.cell? ⟨gZ, 2, none⟩ = some (.slice Z2 (putG g q p).f2.length yZ2) := (blk_cell KZ.out 2).trans rfl
          have zZ3_ : W15.cell? ⟨gZ, 3, none⟩ = some (.slice Z3 (putG g q p).f3.length yZ3) := (blk_cell KZ.out 3).trans rfl
          have zN0_ : W15.cell? ⟨gN, 0, none⟩ = some (.int .i64 (p).f0) := (blk_cell KN.out 0).trans rfl
          have zN1_ : W15.cell? ⟨gN, 1, none⟩ = some (.slice N1 (p).f1.length yN1) := (blk_cell KN.out 1).trans rfl
          have zN2_ : W15.cell? ⟨gN, 2, none⟩ = some (.slice N2 (p).f2.length yN2) := (blk_cell KN.out 2).trans rfl
          have zN3_ : W15.cell? ⟨gN, 3, none⟩ = some (.slice N3 (p).f3.length yN3) := (blk_cell KN.out 3).trans rfl
          have zM0_ : W15.cell? ⟨gM, 0, none⟩ = some (.int .i64 (g).f0) := (blk_cell KM.out 0).trans rfl
          have zM1_ : W15.cell? ⟨gM, 1, none⟩ = some (.slice M1 (g).f1.length yM1) := (blk_cell KM.out 1).trans rfl
          have zM2_ : W15.cell? ⟨gM, 2, none⟩ = some (.slice M2 (g).f2.length yM2) := (blk_cell KM.out 2).trans rfl
          have zM3_ : W15.cell? ⟨gM, 3, none⟩ = some (.slice M3 (g).f3.length yM3) := (blk_cell KM.out 3).trans rfl
          go_wp2_with fail
          clear zA0_ zA1_ zA2_ zA3_ zB0_ zB1_ zB2_ zB3_ zU0_ zU1_ zU2_ zU3_ zS0_ zS1_ zS2_ zS3_ zZ0_ zZ1_ zZ2_ zZ3_ zN0_ zN1_ zN2_ zN3_ zM0_ zM1_ zM2_ zM3_
          refine (equal_calls g.bulk _ _ g g W15 IM.out IA.out (Nat.le_refl _) (by omega) (by omega)).mono ?_
          rintro e W16 ⟨rfl, hb_⟩
          rw [eqG_true rfl]
          have n_ := Aside0.mk (blk_below KA.out hb_)
          clear KA
          have KA := n_
          clear n_
          have n_ := Aside0.mk (blk_below KB.out hb_)
          clear KB
          have KB := n_
          clear n_
          have n_ := Aside0.mk (IA.out.below hb_)
          clear IA
          have IA := n_
          clear n_
          have n_ := Aside0.mk (IB.out.below hb_)
          clear IB
          have IB := n_
          clear n_
          have n_ := Aside0.mk (below_step HB.out hb_)
          clear HB
          have HB := n_
          clear n_
          have n_ := Aside0.mk (IU.out.below hb_)
          clear IU
          have IU := n_
          clear n_
          have n_ := Aside0.mk (blk_below KU.out hb_)
          clear KU
          have KU := n_
          clear n_
          have n_ := Aside0.mk (IS.out.below hb_)
          clear IS
          have IS := n_
          clear n_
          have n_ := Aside0.mk (blk_below KS.out hb_)
          clear KS
          have KS := n_
          clear n_
          have n_ := Aside0.mk (IZ.out.below hb_)
          clear IZ
          have IZ := n_
          clear n_
          have n_ := Aside0.mk (blk_below KZ.out hb_)
          clear KZ
          have KZ := n_
          clear n_
          have n_ := Aside0.mk (IN.out.below hb_)
          clear IN
          have IN := n_
          clear n_
          have n_ := Aside0.mk (blk_below KN.out hb_)
          clear KN
          have KN := n_
          clear n_
          have n_ := Aside0.mk (IM.out.below hb_)
          clear IM
          have IM := n_
          clear n_
          have n_ := Aside0.mk (blk_below KM.out hb_)
          clear KM
          have KM := n_
          clear n_
          clear hb_
          have zA0_ : W16.cell? ⟨ga, 0, none⟩ = some (.int .i64 g.f0) := (blk_cell KA.out 0).trans rfl
          have zA1_ : W16.cell? ⟨ga, 1, none⟩ = some (.slice A1 g.f1.length c1) := (blk_cell KA.out 1).trans rfl
          have zA2_ : W16.cell? ⟨ga, 2, none⟩ = some (.slice A2 g.f2.length c2) := (blk_cell KA.out 2).trans rfl
          have zA3_ : W16.cell? ⟨ga, 3, none⟩ = some (.slice A3 g.f3.length c3) := (blk_cell KA.out 3).trans rfl
          have zB0_ : W16.cell? ⟨gb, 0, none⟩ = some (.int .i64 p.f0) := (blk_cell KB.out 0).trans rfl
          have zB1_ : W16.cell? ⟨gb, 1, none⟩ = some (.slice D1 p.f1.length d1) := (blk_cell KB.out 1).trans rfl
          have zB2_ : W16.cell? ⟨gb, 2, none⟩ = some (.slice D2 p.f2.length d2) := (blk_cell KB.out 2).trans rfl
          have zB3_ : W16.cell? ⟨gb, 3, none⟩ = some (.slice D3 p.f3.length d3) := (blk_cell KB.out 3).trans rfl
          have zU0_ : W16.cell? ⟨gU, 0, none⟩ = some (.int .i64 (k).f0) := (blk_cell KU.out 0).trans rfl
          have zU1_ : W16.cell? ⟨gU, 1, none⟩ = some (.slice U1 (k).f1.length yU1) := (blk_cell KU.out 1).trans rfl
          have zU2_ : W16.cell? ⟨gU, 2, none⟩ = some (.slice U2 (k).f2.length yU2) := (blk_cell KU.out 2).trans rfl
          have zU3_ : W16.cell? ⟨gU, 3, none⟩ = some (.slice U3 (k).f3.length yU3) := (blk_cell KU.out 3).trans rfl
          have zS0_ : W16.cell? ⟨gS, 0, none⟩ = some (.int .i64 (putG g q p).f0) := (blk_cell KS.out 0).trans rfl
          have zS1_ : W16.cell? ⟨gS, 1, none⟩ = some (.slice S1 (putG g q p).f1.length yS1) := (blk_cell KS.out 1).trans rfl
          have zS2_ : W16.cell? ⟨gS, 2, none⟩ = some (.slice S2 (putG g q p).f2.length yS2) := (blk_cell KS.out 2).trans rfl
          have zS3_ : W16.cell? ⟨gS, 3, none⟩ = some (.slice S3 (putG g q p).f3.length yS3) := (blk_cell KS.out 3).trans rfl
          have zZ0_ : W16.cell? ⟨gZ, 0, none⟩ = some (.int .i64 (putG g q p).f0) := (blk_cell KZ.out 0).trans rfl
          have zZ1_ : W16.cell? ⟨gZ, 1, none⟩ = some (.slice Z1 (putG g q p).f1.length yZ1) := (blk_cell KZ.out 1).trans rfl
          have zZ2_ : W16.cell? ⟨gZ, 2, none⟩ = some (.slice Z2 (putG g q p).f2.length yZ2) := (blk_cell KZ.out 2).trans rfl
          have zZ3_ : W16.cell? ⟨gZ, 3, none⟩ = some (.slice Z3 (putG g q p).f3.length yZ3) := (blk_cell KZ.out 3).trans rfl
          have zN0_ : W16.cell? ⟨gN, 0, none⟩ = some (.int .i64 (p).f0) := (blk_cell KN.out 0).trans rfl
          have zN1_ : W16.cell? ⟨gN, 1, none⟩ = some (.slice N1 (p).f1.length yN1) := (blk_cell KN.out 1).trans rfl
          have zN2_ : W16.cell? ⟨gN, 2, none⟩ = some (.slice N2 (p).f2.length yN2) := (blk_cell KN.out 2).trans rfl
          have zN3_ : W16.cell? ⟨gN, 3, none⟩ = some (.slice N3 (p).f3.length yN3) := (blk_cell KN.out 3).trans rfl
          have zM0_ : W16.cell? ⟨gM, 0, none⟩ = some (.int .i64 (g).f0) := (blk_cell KM.out 0).trans rfl
          have zM1_ : W16.cell? ⟨gM, 1, none⟩ = some (.slice M1 (g).f1.length yM1) := (blk_cell KM.out 1).trans rfl
          have zM2_ : W16.cell? ⟨gM, 2, none⟩ = some (.slice M2 (g).f2.length yM2) := (blk_cell KM.out 2).trans rfl
          have zM3_ : W16.cell? ⟨gM, 3, none⟩ = some (.slice M3 (g).f3.length yM3) := (blk_cell KM.out 3).trans rfl
          go_wp2_with fail
          clear zA0_ zA1_ zA2_ zA3_ zB0_ zB1_ zB2_ zB3_ zU0_ zU1_ zU2_ zU3_ zS0_ zS1_ zS2_ zS3_ zZ0_ zZ1_ zZ2_ zZ3_ zN0_ zN1_ zN2_ zN3_ zM0_ zM1_ zM2_ zM3_
          refine (Find_calls _ g B o.length d o W16 IA.out (by omega) rfl (Kd.C_below HO.out HB.out)).mono ?_
          rintro e W17 ⟨u_, c_, rfl, hr_, hb_⟩
          obtain ⟨hg_, rfl⟩ := hr_.got
          have hI := hg_.isG
          obtain ⟨X1, yX1, X2, yX2, X3, yX3, rfl, _⟩ := hg_.isG
          have IX := Aside0.mk hI
          clear hr_ hg_ hI
          have n_ := Aside0.mk (blk_below KA.out hb_)
          clear KA
          have KA := n_
          clear n_
          have n_ := Aside0.mk (blk_below KB.out hb_)
          clear KB
          have KB := n_
          clear n_
          have n_ := Aside0.mk (IA.out.below hb_)
          clear IA
          have IA := n_
          clear n_
          have n_ := Aside0.mk (IB.out.below hb_)
          clear IB
          have IB := n_
          clear n_
          have n_ := Aside0.mk (below_step HB.out hb_)
          clear HB
          have HB := n_
          clear n_
          have n_ := Aside0.mk (IU.out.below hb_)
          clear IU
          have IU := n_
          clear n_
          have n_ := Aside0.mk (blk_below KU.out hb_)
          clear KU
          have KU := n_
          clear n_
          have n_ := Aside0.mk (IS.out.below hb_)
          clear IS
          have IS := n_
          clear n_
          have n_ := Aside0.mk (blk_below KS.out hb_)
          clear KS
          have KS := n_
          clear n_
          have n_ := Aside0.mk (IZ.out.below hb_)
          clear IZ
          have IZ := n_
          clear n_
          have n_ := Aside0.mk (blk_below KZ.out hb_)
          clear KZ
          have KZ := n_
          clear n_
          have n_ := Aside0.mk (IN.out.below hb_)
          clear IN
          have IN := n_
          clear n_
          have n_ := Aside0.mk (blk_below KN.out hb_)
          clear KN
          have KN := n_
          clear n_
          have n_ := Aside0.mk (IM.out.below hb_)
          clear IM
          have IM := n_
          clear n_
          have n_ := Aside0.mk (blk_below KM.out hb_)
          clear KM
          have KM := n_
          clear n_
          clear hb_
          have zA0_ : (W17.alloc (.cells #[.int .i64 (findV g o).f0, .slice X1 (findV g o).f1.length yX1, .slice X2 (findV g o).f2.length yX2, .slice X3 (findV g o).f3.length yX3] 26)).cell? ⟨ga, 0, none⟩ = some (.int .i64 g.f0) := (blk_cell (blk_alloc KA.out _) 0).trans rfl
          have zA1_ : (W17.alloc (.cells #[.int .i64 (findV g o).f0, .slice X1 (findV g o).f1.length yX1, .slice X2 (findV g o).f2.length yX2, .slice X3 (findV g o).f3.length yX3] 26)).cell? ⟨ga, 1, none⟩ = some (.slice A1 g.f1.length c1) := (blk_cell (blk_alloc KA.out _) 1).trans rfl
          have zA2_ : (W17.alloc (.cells #[.int .i64 (findV g o).f0, .slice X1 (findV g o).f1.length yX1, .slice X2 (findV g o).f2.length yX2, .slice X3 (findV g o).f3.length yX3] 26)).cell? ⟨ga, 2, none⟩ = some (.slice A2 g.f2.length c2) := (blk_cell (blk_alloc KA.out _) 2).trans rfl
          have zA3_ : (W17.alloc (.cells #[.int .i64 (findV g o).f0, .slice X1 (findV g o).f1.length yX1, .slice X2 (findV g o).f2.length yX2, .slice X3 (findV g o).f3.length yX3] 26)).cell? ⟨ga, 3, none⟩ = some (.slice A3 g.f3.length c3) := (blk_cell (blk_alloc KA.out _) 3).trans rfl
          have zB0_ : (W17.alloc (.cells #[.int .i64 (findV g o).f0, .slice X1 (findV g o).f1.length yX1, .slice X2 (findV g o).f2.length yX2, .slice X3 (findV g o).f3.length yX3] 26)).cell? ⟨gb, 0, none⟩ = some (.int .i64 p.f0) := (blk_cell (blk_alloc KB.out _) 0).trans rfl
          have zB1_ : (W17.alloc (.cells #[.int .i64 (findV g o).f0, .slice X1 (findV g o).f1.length yX1, .slice X2 (findV g o).f2.length yX2, .slice X3 (findV g o).f3.length yX3] 26)).cell? ⟨gb, 1, none⟩ = some (.slice D1 p.f1.length d1) := (blk_cell (blk_alloc KB.out _) 1).trans rfl
          have zB2_ : (W17.alloc (.cells #[.int .i64 (findV g o).f0, .slice X1 (findV g o).f1.length yX1, .slice X2 (findV g o).f2.length yX2, .slice X3 (findV g o).f3.length yX3] 26)).cell? ⟨gb, 2, none⟩ = some (.slice D2 p.f2.length d2) := (blk_cell (blk_alloc KB.out _) 2).trans rfl
          have zB3_ : (W17.alloc (.cells #[.int .i64 (findV g o).f0, .slice X1 (findV g o).f1.length yX1, .slice X2 (findV g o).f2.length yX2, .slice X3 (findV g o).f3.length yX3] 26)).cell? ⟨gb, 3, none⟩ = some (.slice D3 p.f3.length d3) := (blk_cell (blk_alloc KB.out _) 3).trans rfl
          have zU0_ : (W17.alloc (.cells #[.int .i64 (findV g o).f0, .slice X1 (findV g o).f1.length yX1, .slice X2 (findV g o).f2.length yX2, .slice X3 (findV g o).f3.length yX3] 26)).cell? ⟨gU, 0, none⟩ = some (.int .i64 (k).f0) := (blk_cell (blk_alloc KU.out _) 0).trans rfl
          have zU1_ : (W17.alloc (.cells #[.int .i64 (findV g o).f0, .slice X1 (findV g o).f1.length yX1, .slice X2 (findV g o).f2.length yX2, .slice X3 (findV g o).f3.length yX3] 26)).cell? ⟨gU, 1, none⟩ = some (.slice U1 (k).f1.length yU1) := (blk_cell (blk_alloc KU.out _) 1).trans rfl
          have zU2_ : (W17.alloc (.cells #[.int .i64 (findV g o).f0, .slice X1 (findV g o).f1.length yX1, .slice X2 (findV g o).f2.length yX2, .slice X3 (findV g o).f3.length yX3] 26)).cell? ⟨gU, 2, none⟩ = some (.slice U2 (k).f2.length yU2) := (blk_cell (blk_alloc KU.out _) 2).trans rfl
          have zU3_ : (W17.alloc (.cells #[.int .i64 (findV g o).f0, .slice X1 (findV g o).f1.length yX1, .slice X2 (findV g o).f2.length yX2, .slice X3 (findV g o).f3.length yX3] 26)).cell? ⟨gU, 3, none⟩ = some (.slice U3 (k).f3.length yU3) := (blk_cell (blk_alloc KU.out _) 3).trans rfl
          have zS0_ : (W17.alloc (.cells #[.int .i64 (findV g o).f0, .slice X1 (findV g o).f1.length yX1, .slice X2 (findV g o).f2.length yX2, .slice X3 (findV g o).f3.length yX3] 26)).cell? ⟨gS, 0, none⟩ = some (.int .i64 (putG g q p).f0) := (blk_cell (blk_alloc KS.out _) 0).trans rfl
          have zS1_ : (W17.alloc (.cells #[.int .i64 (findV g o).f0, .slice X1 (findV g o).f1.length yX1, .slice X2 (findV g o).f2.length yX2, .slice X3 (findV g o).f3.length yX3] 26)).cell? ⟨gS, 1, none⟩ = some (.slice S1 (putG g q p).f1.length yS1) := (blk_cell (blk_alloc KS.out _) 1).trans rfl
          have zS2_ : (W17.alloc (.cells #[.int .i64 (findV g o).f0, .slice X1 (findV g o).f1.length yX1, .slice X2 (findV g o).f2.length yX2, .slice X3 (findV g o).f3.length yX3] 26)).cell? ⟨gS, 2, none⟩ = some (.slice S2 (putG g q p).f2.length yS2) := (blk_cell (blk_alloc KS.out _) 2).trans rfl
          have zS3_ : (W17.alloc (.cells #[.int .i64 (findV g o).f0, .slice X1 (findV g o).f1.length yX1, .slice X2 (findV g o).f2.length yX2, .slice X3 (findV g o).f3.length yX3] 26)).cell? ⟨gS, 3, none⟩ = some (.slice S3 (putG g q p).f3.length yS3) := (blk_cell (blk_alloc KS.out _) 3).trans rfl
          have zZ0_ : (W17.alloc (.cells #[.int .i64 (findV g o).f0, .slice X1 (findV g o).f1.length yX1, .slice X2 (findV g o).f2.length yX2, .slice X3 (findV g o).f3.length yX3] 26)).cell? ⟨gZ, 0, none⟩ = some (.int .i64 (putG g q p).f0) := (blk_cell (blk_alloc KZ.out _) 0).trans rfl
          have zZ1_ : (W17.alloc (.cells #[.int .i64 (findV g o).f0, .slice X1 (findV g o).f1.length yX1, .slice X2 (findV g o).f2.length yX2, .slice X3 (findV g o).f3.length yX3] 26)).cell? ⟨gZ, 1, none⟩ = some (.slice Z1 (putG g q p).f1.length yZ1) := (blk_cell (blk_alloc KZ.out _) 1).trans rfl
          have zZ2_ : (W17.alloc (.cells #[.int .i64 (findV g o).f0, .slice X1 (findV g o).f1.length yX1, .slice X2 (findV g o).f2.length yX2, .slice X3 (findV g o).f3.length yX3] 26)).cell? ⟨gZ, 2, none⟩ = some (.slice Z2 (putG g q p).f2.length yZ2) := (blk_cell (blk_alloc KZ.out _) 2).trans rfl
          have zZ3_ : (W17.alloc (.cells #[.int .i64 (findV g o).f0, .slice X1 (findV g o).f1.length yX1, .slice X2 (findV g o).f2.length yX2, .slice X3 (findV g o).f3.length yX3] 26)).cell? ⟨gZ, 3, none⟩ = some (.slice Z3 (putG g q p).f3.length yZ3) := (blk_cell (blk_alloc KZ.out _) 3).trans rfl
          have zN0_ : (W17.alloc (.cells #[.int .i64 (findV g o).f0, .slice X1 (findV g o).f1.length yX1, .slice X2 (findV g o).f2.length yX2, .slice X3 (findV g o).f3.length yX3] 26)).cell? ⟨gN, 0, none⟩ = some (.int .i64 (p).f0) := (blk_cell (blk_alloc KN.out _) 0).trans rfl
          have zN1_ : (W17.alloc (.cells #[.int .i64 (findV g o).f0, .slice X1 (findV g o).f1.length yX1, .slice X2 (findV g o).f2.length yX2, .slice X3 (findV g o).f3.length yX3] 26)).cell? ⟨gN, 1, none⟩ = some (.slice N1 (p).f1.length yN1) := (blk_cell (blk_alloc KN.out _) 1).trans rfl
          have zN2_ : (W17.alloc (.cells #[.int .i64 (findV g o).f0, .slice X1 (findV g o).f1.length yX1, .slice X2 (findV g o).f2.length yX2, .slice X3 (findV g o).f3.length yX3] 26)).cell? ⟨gN, 2, none⟩ = some (.slice N2 (p).f2.length yN2) := (blk_cell (blk_alloc KN.out _) 2).trans rfl
          have zN3_ : (W17.alloc (.cells #[.int .i64 (findV g o).f0, .slice X1 (findV g o).f1.length yX1, .slice X2 (findV g o).f2.length yX2, .slice X3 (findV g o).f3.length yX3] 26)).cell? ⟨gN, 3, none⟩ = some (.slice N3 (p).f3.length yN3) := (blk_cell (blk_alloc KN.out _) 3).trans rfl
          have zM0_ : (W17.alloc (.cells #[.int .i64 (findV g o).f0, .slice X1 (findV g o).f1.length yX1, .slice X2 (findV g o).f2.length yX2, .slice X3 (findV g o).f3.length yX3] 26)).cell? ⟨gM, 0, none⟩ = some (.int .i64 (g).f0) := (blk_cell (blk_alloc KM.out _) 0).trans rfl
          have zM1_ : (W17.alloc (.cells #[.int .i64 (findV g o).f0, .slice X1 (findV g o).f1.length yX1, .slice X2 (findV g o).f2.length yX2, .slice X3 (findV g o).f3.length yX3] 26)).cell? ⟨gM, 1, none⟩ = some (.slice M1 (g).f1.length yM1) := (blk_cell (blk_alloc KM.out _) 1).trans rfl
          have zM2_ : (W17.alloc (.cells #[.int .i64 (findV g o).f0, .slice X1 (findV g o).f1.length yX1, .slice X2 (findV g o).f2.length yX2, .slice X3 (findV g o).f3.length yX3] 26)).cell? ⟨gM, 2, none⟩ = some (.slice M2 (g).f2.length yM2) := (blk_cell (blk_alloc KM.out _) 2).trans rfl
          have zM3_ : (W17.alloc (.cells #[.int .i64 (findV g o).f0, .slice X1 (findV g o).f1.length yX1, .slice X2 (findV g o).f2.length yX2, .slice X3 (findV g o).f3.length yX3] 26)).cell? ⟨gM, 3, none⟩ = some (.slice M3 (g).f3.length yM3) := (blk_cell (blk_alloc KM.out _) 3).trans rfl
          go_wp2_with fail
          clear zA0_ zA1_ zA2_ zA3_ zB0_ zB1_ zB2_ zB3_ zU0_ zU1_ zU2_ zU3_ zS0_ zS1_ zS2_ zS3_ zZ0_ zZ1_ zZ2_ zZ3_ zN0_ zN1_ zN2_ zN3_ zM0_ zM1_ zM2_ zM3_
          obtain ⟨gX, hgX_⟩ : ∃ x, x = W17.heap.size := ⟨_, rfl⟩
          obtain ⟨W18, hW18_⟩ : ∃ x, x = W17.alloc (.cells #[.int .i64 (findV g o).f0, .slice X1 (findV g o).f1.length yX1, .slice X2 (findV g o).f2.length yX2, .slice X3 (findV g o).f3.length yX3] 26) := ⟨_, rfl⟩
          rw [← hW18_, ← hgX_]
          have KX := Aside0.mk (show W18.heap[gX]? = some (.cells #[.int .i64 (findV g o).f0, .slice X1 (findV g o).f1.length yX1, .slice X2 (findV g o).f2.length yX2, .slice X3 (findV g o).f3.length yX3] 26 (0, 0)) by rw [hW18_, hgX_]; exact World.alloc_heap_new _ _)
          have hb_ : Below W17.heap.size W17 W18 := by rw [hW18_]; exact below_alloc (Below.refl _ _) _
          clear hW18_ hgX_
          have n_ := Aside0.mk (blk_below KA.out hb_)
          clear KA
          have KA := n_
          clear n_
          have n_ := Aside0.mk (blk_below KB.out hb_)
          clear KB
          have KB := n_
          clear n_
          have n_ := Aside0.mk (IA.out.below hb_)
          clear IA
          have IA := n_
          clear n_
          have n_ := Aside0.mk (IB.out.below hb_)
          clear IB
          have IB := n_
          clear n_
          have n_ := Aside0.mk (below_step HB.out hb_)
          clear HB
          have HB := n_
          clear n_
          have n_ := Aside0.mk (IU.out.below hb_)
          clear IU
          have IU := n_
          clear n_
          have n_ := Aside0.mk (blk_below KU.out hb_)
          clear KU
          have KU := n_
          clear n_
          have n_ := Aside0.mk (IS.out.below hb_)
          clear IS
          have IS := n_
          clear n_
          have n_ := Aside0.mk (blk_below KS.out hb_)
          clear KS
          have KS := n_
          clear n_
          have n_ := Aside0.mk (IZ.out.below hb_)
          clear IZ
          have IZ := n_
          clear n_
          have n_ := Aside0.mk (blk_below KZ.out hb_)
          clear KZ
          have KZ := n_
          clear n_
          have n_ := Aside0.mk (IN.out.below hb_)
          clear IN
          have IN := n_
          clear n_
          have n_ := Aside0.mk (blk_below KN.out hb_)
          clear KN
          have KN := n_
          clear n_
          have n_ := Aside0.mk (IM.out.below hb_)
          clear IM
          have IM := n_
          clear n_
          have n_ := Aside0.mk (blk_below KM.out hb_)
          clear KM
          have KM := n_
          clear n_
          have n_ := Aside0.mk (IX.out.below hb_)
          clear IX
          have IX := n_
          clear n_
          clear hb_
          obtain ⟨yv, hyv⟩ : ∃ x, x = findV (putG g q p) o := ⟨_, rfl⟩
          obtain ⟨yc, hyc⟩ : ∃ x, x = findC (putG g q p) o := ⟨_, rfl⟩
          have HYV := Aside0.mk hyv
          have HYC := Aside0.mk hyc
          clear hyv hyc
          refine (Find_calls _ (putG g q p) B o.length d o W18 IS.out (by omega) rfl (Kd.C_below HO.out HB.out)).mono ?_
          rintro e W19 ⟨u_, c_, rfl, hr_, hb_⟩
          obtain ⟨hg_, hc_⟩ := hr_.got
          rw [← HYV.out] at hg_
          rw [← HYC.out] at hc_
          rw [hc_]
          clear hc_
          have hI := hg_.isG
          obtain ⟨Y1, yY1, Y2, yY2, Y3, yY3, rfl, _⟩ := hg_.isG
          have IY := Aside0.mk hI
          clear hr_ hg_ hI
          have n_ := Aside0.mk (blk_below KA.out hb_)
          clear KA
          have KA := n_
          clear n_
          have n_ := Aside0.mk (blk_below KB.out hb_)
          clear KB
          have KB := n_
          clear n_
          have n_ := Aside0.mk (IA.out.below hb_)
          clear IA
          have IA := n_
          clear n_
          have n_ := Aside0.mk (IB.out.below hb_)
          clear IB
          have IB := n_
          clear n_
          have n_ := Aside0.mk (below_step HB.out hb_)
          clear HB
          have HB := n_
          clear n_
          have n_ := Aside0.mk (IU.out.below hb_)
          clear IU
          have IU := n_
          clear n_
          have n_ := Aside0.mk (blk_below KU.out hb_)
          clear KU
          have KU := n_
          clear n_
          have n_ := Aside0.mk (IS.out.below hb_)
          clear IS
          have IS := n_
          clear n_
          have n_ := Aside0.mk (blk_below KS.out hb_)
          clear KS
          have KS := n_
          clear n_
          have n_ := Aside0.mk (IZ.out.below hb_)
          clear IZ
          have IZ := n_
          clear n_
          have n_ := Aside0.mk (blk_below KZ.out hb_)
          clear KZ
          have KZ := n_
          clear n_
          have n_ := Aside0.mk (IN.out.below hb_)
          clear IN
          have IN := n_
          clear n_
          have n_ := Aside0.mk (blk_below KN.out hb_)
          clear KN
          have KN := n_
          clear n_
          have n_ := Aside0.mk (IM.out.below hb_)
          clear IM
          have IM := n_
          clear n_
          have n_ := Aside0.mk (blk_below KM.out hb_)
          clear KM
          have KM := n_
          clear n_
          have n_ := Aside0.mk (IX.out.below hb_)
          clear IX
          have IX := n_
          clear n_
          have n_ := Aside0.mk (blk_below KX.out hb_)
          clear KX
          have KX := n_
          clear n_
          clear hb_
          have zA0_ : (W19.alloc (.cells #[.int .i64 (yv).f0, .slice Y1 (yv).f1.length yY1, .slice Y2 (yv).f2.length yY2, .slice Y3 (yv).f3.length yY3] 26)).cell? ⟨ga, 0, none⟩ = some (.int .i64 g.f0) := (blk_cell (blk_alloc KA.out _) 0).trans rfl
          have zA1_ : (W19.alloc (.cells #[.int .i64 (yv).f0, .slice Y1 (yv).f1.length yY1, .slice Y2 (yv).f2.length yY2, .slice Y3 (yv).f3.length yY3] 26)).cell? ⟨ga, 1, none⟩ = some (.slice A1 g.f1.length c1) := (blk_cell (blk_alloc KA.out _) 1).trans rfl
          have zA2_ : (W19.alloc (.cells #[.int .i64 (yv).f0, .slice Y1 (yv).f1.length yY1, .slice Y2 (yv).f2.length yY2, .slice Y3 (yv).f3.length yY3] 26)).cell? ⟨ga, 2, none⟩ = some (.slice A2 g.f2.length c2) := (blk_cell (blk_alloc KA.out _) 2).trans rfl
          have zA3_ : (W19.alloc (.cells #[.int .i64 (yv).f0, .slice Y1 (yv).f1.length yY1, .slice Y2 (yv).f2.length yY2, .slice Y3 (yv).f3.length yY3] 26)).cell? ⟨ga, 3, none⟩ = some (.slice A3 g.f3.length c3) := (blk_cell (blk_alloc KA.out _) 3).trans rfl
          have zB0_ : (W19.alloc (.cells #[.int .i64 (yv).f0, .slice Y1 (yv).f1.length yY1, .slice Y2 (yv).f2.length yY2, .slice Y3 (yv).f3.length yY3] 26)).cell? ⟨gb, 0, none⟩ = some (.int .i64 p.f0) := (blk_cell (blk_alloc KB.out _) 0).trans rfl
          have zB1_ : (W19.alloc (.cells #[.int .i64 (yv).f0, .slice Y1 (yv).f1.length yY1, .slice Y2 (yv).f2.length yY2, .slice Y3 (yv).f3.length yY3] 26)).cell? ⟨gb, 1, none⟩ = some (.slice D1 p.f1.length d1) := (blk_cell (blk_alloc KB.out _) 1).trans rfl
          have zB2_ : (W19.alloc (.cells #[.int .i64 (yv).f0, .slice Y1 (yv).f1.length yY1, .slice Y2 (yv).f2.length yY2, .slice Y3 (yv).f3.length yY3] 26)).cell? ⟨gb, 2, none⟩ = some (.slice D2 p.f2.length d2) := (blk_cell (blk_alloc KB.out _) 2).trans rfl
          have zB3_ : (W19.alloc (.cells #[.int .i64 (yv).f0, .slice Y1 (yv).f1.length yY1, .slice Y2 (yv).f2.length yY2, .slice Y3 (yv).f3.length yY3] 26)).cell? ⟨gb, 3, none⟩ = some (.slice D3 p.f3.length d3) := (blk_cell (blk_alloc KB.out _) 3).trans rfl
          have zU0_ : (W19.alloc (.cells #[.int .i64 (yv).f0, .slice Y1 (yv).f1.length yY1, .slice Y2 (yv).f2.length yY2, .slice Y3 (yv).f3.length yY3] 26)).cell? ⟨gU, 0, none⟩ = some (.int .i64 (k).f0) := (blk_cell (blk_alloc KU.out _) 0).trans rfl
          have zU1_ : (W19.alloc (.cells #[.int .i64 (yv).f0, .slice Y1 (yv).f1.length yY1, .slice Y2 (yv).f2.length yY2, .slice Y3 (yv).f3.length yY3] 26)).cell? ⟨gU, 1, none⟩ = some (.slice U1 (k).f1.length yU1) := (blk_cell (blk_alloc KU.out _) 1).trans rfl
          have zU2_ : (W19.alloc (.cells #[.int .i64 (yv).f0, .slice Y1 (yv).f1.length yY1, .slice Y2 (yv).f2.length yY2, .slice Y3 (yv).f3.length yY3] 26)).cell? ⟨gU, 2, none⟩ = some (.slice U2 (k).f2.length yU2) := (blk_cell (blk_alloc KU.out _) 2).trans rfl
          have zU3_ : (W19.alloc (.cells #[.int .i64 (yv).f0, .slice Y1 (yv).f1.length yY1, .slice Y2 (yv).f2.length yY2, .slice Y3 (yv).f3.length yY3] 26)).cell? ⟨gU, 3, none⟩ = some (.slice U3 (k).f3.length yU3) := (blk_cell (blk_alloc KU.out _) 3).trans rfl
          have zS0_ : (W19.alloc (.cells #[.int .i64 (yv).f0, .slice Y1 (yv).f1.length yY1, .slice Y2 (yv).f2.length yY2, .slice Y3 (yv).f3.length yY3] 26)).cell? ⟨gS, 0, none⟩ = some (.int .i64 (putG g q p).f0) := (blk_cell (blk_alloc KS.out _) 0).trans rfl
          have zS1_ : (W19.alloc (.cells #[.int .i64 (yv).f0, .slice Y1 (yv).f1.length yY1, .slice Y2 (yv).f2.length yY2, .slice Y3 (yv).f3.length yY3] 26)).cell? ⟨gS, 1, none⟩ = some (.slice S1 (putG g q p).f1.length yS1) := (blk_cell (blk_alloc KS.out _) 1).trans rfl
          have zS2_ : (W19.alloc (.cells #[.int .i64 (yv).f0, .slice Y1 (yv).f1.length yY1, .slice Y2 (yv).f2.length yY2, .slice Y3 (yv).f3.length yY3] 26)).cell? ⟨gS, 2, none⟩ = some (.slice S2 (putG g q p).f2.length yS2) := (blk_cell (blk_alloc KS.out _) 2).trans rfl
          have zS3_ : (W19.alloc (.cells #[.int .i64 (yv).f0, .slice Y1 (yv).f1.length yY1, .slice Y2 (yv).f2.length yY2, .slice Y3 (yv).f3.length yY3] 26)).cell? ⟨gS, 3, none⟩ = some (.slice S3 (putG g q p).f3.length yS3) := (blk_cell (blk_alloc KS.out _) 3).trans rfl
          have zZ0_ : (W19.alloc (.cells #[.int .i64 (yv).f0, .slice Y1 (yv).f1.length yY1, .slice Y2 (yv).f2.length yY2, .slice Y3 (yv).f3.length yY3] 26)).cell? ⟨gZ, 0, none⟩ = some (.int .i64 (putG g q p).f0) := (blk_cell (blk_alloc KZ.out _) 0).trans rfl
          have zZ1_ : (W19.alloc (.cells #[.int .i64 (yv).f0, .slice Y1 (yv).f1.length yY1, .slice Y2 (yv).f2.length yY2, .slice Y3 (yv).f3.length yY3] 26)).cell? ⟨gZ, 1, none⟩ = some (.slice Z1 (putG g q p).f1.length yZ1) := (blk_cell (blk_alloc KZ.out _) 1).trans rfl
          have zZ2_ : (W19.alloc (.cells #[.int .i64 (yv).f0, .slice Y1 (yv).f1.length yY1, .slice Y2 (yv).f2.length yY2, .slice Y3 (yv).f3.length yY3] 26)).cell? ⟨gZ, 2, none⟩ = some (.slice Z2 (putG g q p).f2.length yZ2) := (blk_cell (blk_alloc KZ.out _) 2).trans rfl
          have zZ3_ : (W19.alloc (.cells #[.int .i64 (yv).f0, .slice Y1 (yv).f1.length yY1, .slice Y2 (yv).f2.length yY2, .slice Y3 (yv).f3.length yY3] 26)).cell? ⟨gZ, 3, none⟩ = some (.slice Z3 (putG g q p).f3.length yZ3) := (blk_cell (blk_alloc KZ.out _) 3).trans rfl
          have zN0_ : (W19.alloc (.cells #[.int .i64 (yv).f0, .slice Y1 (yv).f1.length yY1, .slice Y2 (yv).f2.length yY2, .slice Y3 (yv).f3.length yY3] 26)).cell? ⟨gN, 0, none⟩ = some (.int .i64 (p).f0) := (blk_cell (blk_alloc KN.out _) 0).trans rfl
          have zN1_ : (W19.alloc (.cells #[.int .i64 (yv).f0, .slice Y1 (yv).f1.length yY1, .slice Y2 (yv).f2.length yY2, .slice Y3 (yv).f3.length yY3] 26)).cell? ⟨gN, 1, none⟩ = some (.slice N1 (p).f1.length yN1) := (blk_cell (blk_alloc KN.out _) 1).trans rfl
          have zN2_ : (W19.alloc (.cells #[.int .i64 (yv).f0, .slice Y1 (yv).f1.length yY1, .slice Y2 (yv).f2.length yY2, .slice Y3 (yv).f3.length yY3] 26)).cell? ⟨gN, 2, none⟩ = some (.slice N2 (p).f2.length yN2) := (blk_cell (blk_alloc KN.out _) 2).trans rfl
          have zN3_ : (W19.alloc (.cells #[.int .i64 (yv).f0, .slice Y1 (yv).f1.length yY1, .slice Y2 (yv).f2.length yY2, .slice Y3 (yv).f3.length yY3] 26)).cell? ⟨gN, 3, none⟩ = some (.slice N3 (p).f3.length yN3) := (blk_cell (blk_alloc KN.out _) 3).trans rfl
          have zM0_ : (W19.alloc (.cells #[.int .i64 (yv).f0, .slice Y1 (yv).f1.length yY1, .slice Y2 (yv).f2.length yY2, .slice Y3 (yv).f3.length yY3] 26)).cell? ⟨gM, 0, none⟩ = some (.int .i64 (g).f0) := (blk_cell (blk_alloc KM.out _) 0).trans rfl
          have zM1_ : (W19.alloc (.cells #[.int .i64 (yv).f0, .slice Y1 (yv).f1.length yY1, .slice Y2 (yv).f2.length yY2, .slice Y3 (yv).f3.length yY3] 26)).cell? ⟨gM, 1, none⟩ = some (.slice M1 (g).f1.length yM1) := (blk_cell (blk_alloc KM.out _) 1).trans rfl
          have zM2_ : (W19.alloc (.cells #[.int .i64 (yv).f0, .slice Y1 (yv).f1.length yY1, .slice Y2 (yv).f2.length yY2, .slice Y3 (yv).f3.length yY3] 26)).cell? ⟨gM, 2, none⟩ = some (.slice M2 (g).f2.length yM2) := (blk_cell (blk_alloc KM.out _) 2).trans rfl
          have zM3_ : (W19.alloc (.cells #[.int .i64 (yv).f0, .slice Y1 (yv).f1.length yY1, .slice Y2 (yv).f2.length yY2, .slice Y3 (yv).f3.length yY3] 26)).cell? ⟨gM, 3, none⟩ = some (.slice M3 (g).f3.length yM3) := (blk_cell (blk_alloc KM.out _) 3).trans rfl
          have zX0_ : (W19.alloc (.cells #[.int .i64 (yv).f0, .slice Y1 (yv).f1.length yY1, .slice Y2 (yv).f2.length yY2, .slice Y3 (yv).f3.length yY3] 26)).cell? ⟨gX, 0, none⟩ = some (.int .i64 (findV g o).f0) := (blk_cell (blk_alloc KX.out _) 0).trans rfl
          have zX1_ : (W19.alloc (.cells #[.int .i64 (yv).f0, .slice Y1 (yv).f1.length yY1, .slice Y2 (yv).f2.length yY2, .slice Y3 (yv).f3.length yY3] 26)).cell? ⟨gX, 1, none⟩ = some (.slice X1 (findV g o).f1.length yX1) := (blk_cell (blk_alloc KX.out _) 1).trans rfl
          have zX2_ : (W19.alloc (.cells #[.int .i64 (yv).f0, .slice Y1 (yv).f1.length yY1, .slice Y2 (yv).f2.length yY2, .slice Y3 (yv).f3.length yY3] 26)).cell? ⟨gX, 2, none⟩ = some (.slice X2 (findV g o).f2.length yX2) := (blk_cell (blk_alloc KX.out _) 2).trans rfl
          have zX3_ : (W19.alloc (.cells #[.int .i64 (yv).f0, .slice Y1 (yv).f1.length yY1, .slice Y2 (yv).f2.length yY2, .slice Y3 (yv).f3.length yY3] 26)).cell? ⟨gX, 3, none⟩ = some (.slice X3 (findV g o).f3.length yX3) := (blk_cell (blk_alloc KX.out _) 3).trans rfl
          go_wp2_with fail
          clear zA0_ zA1_ zA2_ zA3_ zB0_ zB1_ zB2_ zB3_ zU0_ zU1_ zU2_ zU3_ zS0_ zS1_ zS2_ zS3_ zZ0_ zZ1_ zZ2_ zZ3_ zN0_ zN1_ zN2_ zN3_ zM0_ zM1_ zM2_ zM3_ zX0_ zX1_ zX2_ zX3_
          obtain ⟨gY, hgY_⟩ : ∃ x, x = W19.heap.size := ⟨_, rfl⟩
          obtain ⟨W20, hW20_⟩ : ∃ x, x = W19.alloc (.cells #[.int .i64 (yv).f0, .slice Y1 (yv).f1.length yY1, .slice Y2 (yv).f2.length yY2, .slice Y3 (yv).f3.length yY3] 26) := ⟨_, rfl⟩
          rw [← hW20_, ← hgY_]
          have KY := Aside0.mk (show W20.heap[gY]? = some (.cells #[.int .i64 (yv).f0, .slice Y1 (yv).f1.length yY1, .slice Y2 (yv).f2.length yY2, .slice Y3 (yv).f3.length yY3] 26 (0, 0)) by rw [hW20_, hgY_]; exact World.alloc_heap_new _ _)
          have hb_ : Below W19.heap.size W19 W20 := by rw [hW20_]; exact below_alloc (Below.refl _ _) _
          clear hW20_ hgY_
          have n_ := Aside0.mk (blk_below KA.out hb_)
          clear KA
          have KA := n_
          clear n_
          have n_ := Aside0.mk (blk_below KB.out hb_)
          clear KB
          have KB := n_
          clear n_
          have n_ := Aside0.mk (IA.out.below hb_)
          clear IA
          have IA := n_
          clear n_
          have n_ := Aside0.mk (IB.out.below hb_)
          clear IB
          have IB := n_
          clear n_
          have n_ := Aside0.mk (below_step HB.out hb_)
          clear HB
          have HB := n_
          clear n_
          have n_ := Aside0.mk (IU.out.below hb_)
          clear IU
          have IU := n_
          clear n_
          have n_ := Aside0.mk (blk_below KU.out hb_)
          clear KU
          have KU := n_
          clear n_
          have n_ := Aside0.mk (IS.out.below hb_)
          clear IS
          have IS := n_
          clear n_
          have n_ := Aside0.mk (blk_below KS.out hb_)
          clear KS
          have KS := n_
          clear n_
          have n_ := Aside0.mk (IZ.out.below hb_)
          clear IZ
          have IZ := n_
          clear n_
          have n_ := Aside0.mk (blk_below KZ.out hb_)
          clear KZ
          have KZ := n_
          clear n_
          have n_ := Aside0.mk (IN.out.below hb_)
          clear IN
          have IN := n_
          clear n_
          have n_ := Aside0.mk (blk_below KN.out hb_)
          clear KN
          have KN := n_
          clear n_
          have n_ := Aside0.mk (IM.out.below hb_)
          clear IM
          have IM := n_
          clear n_
          have n_ := Aside0.mk (blk_below KM.out hb_)
          clear KM
          have KM := n_
          clear n_
          have n_ := Aside0.mk (IX.out.below hb_)
          clear IX
          have IX := n_
          clear n_
          have n_ := Aside0.mk (blk_below KX.out hb_)
          clear KX
          have KX := n_
          clear n_
          have n_ := Aside0.mk (IY.out.below hb_)
          clear IY
          have IY := n_
          clear n_
          clear hb_
          refine (begins_calls A B c d q o W20 (Kd.C_below HP.out HB.out) (Kd.C_below HO.out HB.out) (by omega) (by omega)).mono ?_
          rintro e w9 ⟨rfl, nb, rfl⟩
          have n_ := Aside0.mk (blk_below KA.out (pw_below_drewN (Below.refl W20.heap.size W20) nb))
          clear KA
          have KA := n_
          clear n_
          have n_ := Aside0.mk (blk_below KB.out (pw_below_drewN (Below.refl W20.heap.size W20) nb))
          clear KB
          have KB := n_
          clear n_
          have n_ := Aside0.mk (IA.out.below (pw_below_drewN (Below.refl W20.heap.size W20) nb))
          clear IA
          have IA := n_
          clear n_
          have n_ := Aside0.mk (IB.out.below (pw_below_drewN (Below.refl W20.heap.size W20) nb))
          clear IB
          have IB := n_
          clear n_
          have n_ := Aside0.mk (below_step HB.out (pw_below_drewN (Below.refl W20.heap.size W20) nb))
          clear HB
          have HB := n_
          clear n_
          have n_ := Aside0.mk (IU.out.below (pw_below_drewN (Below.refl W20.heap.size W20) nb))
          clear IU
          have IU := n_
          clear n_
          have n_ := Aside0.mk (blk_below KU.out (pw_below_drewN (Below.refl W20.heap.size W20) nb))
          clear KU
          have KU := n_
          clear n_
          have n_ := Aside0.mk (IS.out.below (pw_below_drewN (Below.refl W20.heap.size W20) nb))
          clear IS
          have IS := n_
          clear n_
          have n_ := Aside0.mk (blk_below KS.out (pw_below_drewN (Below.refl W20.heap.size W20) nb))
          clear KS
          have KS := n_
          clear n_
          have n_ := Aside0.mk (IZ.out.below (pw_below_drewN (Below.refl W20.heap.size W20) nb))
          clear IZ
          have IZ := n_
          clear n_
          have n_ := Aside0.mk (blk_below KZ.out (pw_below_drewN (Below.refl W20.heap.size W20) nb))
          clear KZ
          have KZ := n_
          clear n_
          have n_ := Aside0.mk (IN.out.below (pw_below_drewN (Below.refl W20.heap.size W20) nb))
          clear IN
          have IN := n_
          clear n_
          have n_ := Aside0.mk (blk_below KN.out (pw_below_drewN (Below.refl W20.heap.size W20) nb))
          clear KN
          have KN := n_
          clear n_
          have n_ := Aside0.mk (IM.out.below (pw_below_drewN (Below.refl W20.heap.size W20) nb))
          clear IM
          have IM := n_
          clear n_
          have n_ := Aside0.mk (blk_below KM.out (pw_below_drewN (Below.refl W20.heap.size W20) nb))
          clear KM
          have KM := n_
          clear n_
          have n_ := Aside0.mk (IX.out.below (pw_below_drewN (Below.refl W20.heap.size W20) nb))
          clear IX
          have IX := n_
          clear n_
          have n_ := Aside0.mk (blk_below KX.out (pw_below_drewN (Below.refl W20.heap.size W20) nb))
          clear KX
          have KX := n_
          clear n_
          have n_ := Aside0.mk (IY.out.below (pw_below_drewN (Below.refl W20.heap.size W20) nb))
          clear IY
          have IY := n_
          clear n_
          have n_ := Aside0.mk (blk_below KY.out (pw_below_drewN (Below.refl W20.heap.size W20) nb))
          clear KY
          have KY := n_
          clear n_
          have zA0_ : (W20.drewN nb).cell? ⟨ga, 0, none⟩ = some (.int .i64 g.f0) := (blk_cell KA.out 0).trans rfl
          have zA1_ : (W20.drewN nb).cell? ⟨ga, 1, none⟩ = some (.slice A1 g.f1.length c1) := (blk_cell KA.out 1).trans rfl
          have zA2_ : (W20.drewN nb).cell? ⟨ga, 2, none⟩ = some (.slice A2 g.f2.length c2) := (blk_cell KA.out 2).trans rfl
          have zA3_ : (W20.drewN nb).cell? ⟨ga, 3, none⟩ = some (.slice A3 g.f3.length c3) := (blk_cell KA.out 3).trans rfl
          have zB0_ : (W20.drewN nb).cell? ⟨gb, 0, none⟩ = some (.int .i64 p.f0) := (blk_cell KB.out 0).trans rfl
          have zB1_ : (W20.drewN nb).cell? ⟨gb, 1, none⟩ = some (.slice D1 p.f1.length d1) := (blk_cell KB.out 1).trans rfl
          have zB2_ : (W20.drewN nb).cell? ⟨gb, 2, none⟩ = some (.slice D2 p.f2.length d2) := (blk_cell KB.out 2).trans rfl
          have zB3_ : (W20.drewN nb).cell? ⟨gb, 3, none⟩ = some (.slice D3 p.f3.length d3) := (blk_cell KB.out 3).trans rfl
          have zU0_ : (W20.drewN nb).cell? ⟨gU, 0, none⟩ = some (.int .i64 (k).f0) := (blk_cell KU.out 0).trans rfl
          have zU1_ : (W20.drewN nb).cell? ⟨gU, 1, none⟩ = some (.slice U1 (k).f1.length yU1) := (blk_cell KU.out 1).trans rfl
          have zU2_ : (W20.drewN nb).cell? ⟨gU, 2, none⟩ = some (.slice U2 (k).f2.length yU2) := (blk_cell KU.out 2).trans rfl
          have zU3_ : (W20.drewN nb).cell? ⟨gU, 3, none⟩ = some (.slice U3 (k).f3.length yU3) := (blk_cell KU.out 3).trans rfl
          have zS0_ : (W20.drewN nb).cell? ⟨gS, 0, none⟩ = some (.int .i64 (putG g q p).f0) := (blk_cell KS.out 0).trans rfl
          have zS1_ : (W20.drewN nb).cell? ⟨gS, 1, none⟩ = some (.slice S1 (putG g q p).f1.length yS1) := (blk_cell KS.out 1).trans rfl
          have zS2_ : (W20.drewN nb).cell? ⟨gS, 2, none⟩ = some (.slice S2 (putG g q p).f2.length yS2) := (blk_cell KS.out 2).trans rfl
          have zS3_ : (W20.drewN nb).cell? ⟨gS, 3, none⟩ = some (.slice S3 (putG g q p).f3.length yS3) := (blk_cell KS.out 3).trans rfl
          have zZ0_ : (W20.drewN nb).cell? ⟨gZ, 0, none⟩ = some (.int .i64 (putG g q p).f0) := (blk_cell KZ.out 0).trans rfl
          have zZ1_ : (W20.drewN nb).cell? ⟨gZ, 1, none⟩ = some (.slice Z1 (putG g q p).f1.length yZ1) := (blk_cell KZ.out 1).trans rfl
          have zZ2_ : (W20.drewN nb).cell? ⟨gZ, 2, none⟩ = some (.slice Z2 (putG g q p).f2.length yZ2) := (blk_cell KZ.out 2).trans rfl
          have zZ3_ : (W20.drewN nb).cell? ⟨gZ, 3, none⟩ = some (.slice Z3 (putG g q p).f3.length yZ3) := (blk_cell KZ.out 3).trans rfl
          have zN0_ : (W20.drewN nb).cell? ⟨gN, 0, none⟩ = some (.int .i64 (p).f0) := (blk_cell KN.out 0).trans rfl
          have zN1_ : (W20.drewN nb).cell? ⟨gN, 1, none⟩ = some (.slice N1 (p).f1.length yN1) := (blk_cell KN.out 1).trans rfl
          have zN2_ : (W20.drewN nb).cell? ⟨gN, 2, none⟩ = some (.slice N2 (p).f2.length yN2) := (blk_cell KN.out 2).trans rfl
          have zN3_ : (W20.drewN nb).cell? ⟨gN, 3, none⟩ = some (.slice N3 (p).f3.length yN3) := (blk_cell KN.out 3).trans rfl
          have zM0_ : (W20.drewN nb).cell? ⟨gM, 0, none⟩ = some (.int .i64 (g).f0) := (blk_cell KM.out 0).trans rfl
          have zM1_ : (W20.drewN nb).cell? ⟨gM, 1, none⟩ = some (.slice M1 (g).f1.length yM1) := (blk_cell KM.out 1).trans rfl
          have zM2_ : (W20.drewN nb).cell? ⟨gM, 2, none⟩ = some (.slice M2 (g).f2.length yM2) := (blk_cell KM.out 2).trans rfl
          have zM3_ : (W20.drewN nb).cell? ⟨gM, 3, none⟩ = some (.slice M3 (g).f3.length yM3) := (blk_cell KM.out 3).trans rfl
          have zX0_ : (W20.drewN nb).cell? ⟨gX, 0, none⟩ = some (.int .i64 (findV g o).f0) := (blk_cell KX.out 0).trans rfl
          have zX1_ : (W20.drewN nb).cell? ⟨gX, 1, none⟩ = some (.slice X1 (findV g o).f1.length yX1) := (blk_cell KX.out 1).trans rfl
          have zX2_ : (W20.drewN nb).cell? ⟨gX, 2, none⟩ = some (.slice X2 (findV g o).f2.length yX2) := (blk_cell KX.out 2).trans rfl
          have zX3_ : (W20.drewN nb).cell? ⟨gX, 3, none⟩ = some (.slice X3 (findV g o).f3.length yX3) := (blk_cell KX.out 3).trans rfl
          have zY0_ : (W20.drewN nb).cell? ⟨gY, 0, none⟩ = some (.int .i64 (yv).f0) := (blk_cell KY.out 0).trans rfl
          have zY1_ : (W20.drewN nb).cell? ⟨gY, 1, none⟩ = some (.slice Y1 (yv).f1.length yY1) := (blk_cell KY.out 1).trans rfl
          have zY2_ : (W20.drewN nb).cell? ⟨gY, 2, none⟩ = some (.slice Y2 (yv).f2.length yY2) := (blk_cell KY.out 2).trans rfl
          have zY3_ : (W20.drewN nb).cell? ⟨gY, 3, none⟩ = some (.slice Y3 (yv).f3.length yY3) := (blk_cell KY.out 3).trans rfl
          cases hbg : begB q o with
          | true =>
            go_wp2_with fail
            go_ret
            exact ⟨rfl, HB.out⟩
          | false =>
            have hne := findR_ne (p := p) HQ.out hbg
            obtain rfl : yc = findC g o := by rw [HYC.out]; unfold findC; rw [hne]
            obtain rfl : yv = findV g o := by rw [HYV.out]; unfold findV; rw [hne]
            clear hbg hne HYC HYV
            have hfo := findV_bulk g o
            go_wp2_with fail
            clear zA0_ zA1_ zA2_ zA3_ zB0_ zB1_ zB2_ zB3_ zU0_ zU1_ zU2_ zU3_ zS0_ zS1_ zS2_ zS3_ zZ0_ zZ1_ zZ2_ zZ3_ zN0_ zN1_ zN2_ zN3_ zM0_ zM1_ zM2_ zM3_ zX0_ zX1_ zX2_ zX3_ zY0_ zY1_ zY2_ zY3_
            refine (equal_calls (findV g o).bulk _ _ (findV g o) (findV g o) (W20.drewN nb) IX.out IY.out (Nat.le_refl _) (by omega) (by omega)).mono ?_
            rintro e W22 ⟨rfl, hb_⟩
            rw [eqG_true rfl]
            have n_ := Aside0.mk (blk_below KA.out hb_)
            clear KA
            have KA := n_
            clear n_
            have n_ := Aside0.mk (blk_below KB.out hb_)
            clear KB
            have KB := n_
            clear n_
            have n_ := Aside0.mk (IA.out.below hb_)
            clear IA
            have IA := n_
            clear n_
            have n_ := Aside0.mk (IB.out.below hb_)
            clear IB
            have IB := n_
            clear n_
            have n_ := Aside0.mk (below_step HB.out hb_)
            clear HB
            have HB := n_
            clear n_
            have n_ := Aside0.mk (IU.out.below hb_)
            clear IU
            have IU := n_
            clear n_
            have n_ := Aside0.mk (blk_below KU.out hb_)
            clear KU
            have KU := n_
            clear n_
            have n_ := Aside0.mk (IS.out.below hb_)
            clear IS
            have IS := n_
            clear n_
            have n_ := Aside0.mk (blk_below KS.out hb_)
            clear KS
            have KS := n_
            clear n_
            have n_ := Aside0.mk (IZ.out.below hb_)
            clear IZ
            have IZ := n_
            clear n_
            have n_ := Aside0.mk (blk_below KZ.out hb_)
            clear KZ
            have KZ := n_
            clear n_
            have n_ := Aside0.mk (IN.out.below hb_)
            clear IN
            have IN := n_
            clear n_
            have n_ := Aside0.mk (blk_below KN.out hb_)
            clear KN
            have KN := n_
            clear n_
            have n_ := Aside0.mk (IM.out.below hb_)
            clear IM
            have IM := n_
            clear n_
            have n_ := Aside0.mk (blk_below KM.out hb_)
            clear KM
            have KM := n_
            clear n_
            have n_ := Aside0.mk (IX.out.below hb_)
            clear IX
            have IX := n_
            clear n_
            have n_ := Aside0.mk (blk_below KX.out hb_)
            clear KX
            have KX := n_
            clear n_
            have n_ := Aside0.mk (IY.out.below hb_)
            clear IY
            have IY := n_
            clear n_
            have n_ := Aside0.mk (blk_below KY.out hb_)
            clear KY
            have KY := n_
            clear n_
            clear hb_
            go_wp2_with fail
            go_ret
            exact ⟨rfl, HB.out⟩
end Go.Proofs.Ytmcbniobbbjdjaa.Tree
