/- Texts of this claim laid one behind the other (TMk; TPB; TMkT): what each proves stands at its own names; the last one is the claim's. No conditions but those told. -/
import Derived.Test.YtiiolhnpnlmkjaaZOnh
namespace Go.Proofs.Ytiiolhnpnlmkjaa.Tree
open Go.RowKit Go.Proofs.Ytiiolhnpnlmkjaa.PWkbPrints Go.Proofs.YtiiolhnpnlmkjaaW.PrintWords Go.Proofs.YtiiolhnpnlmkjaaW.PrintLast Go.Proofs.YtiiolhnpnlmkjaaW.PrintMore Go.Proofs.Ytiiolhnpnlmkjaa.PMk
attribute [local go_sem] Oper.semAt_some max2_int max_two min2_int min_two
/-- A walk of the maker's geom: the maker, the result's cell, the node, the tree that is made. -/
structure MX (w0 W W' : World) (gm : Nat) (l : List Wn) (A : Option Addr) (c nx : Nat) (gs gn : Nat) (x : Wn) (An : Option Addr) (cn : Nat) (go_ : Nat) (cs : Array Value) : Prop where
  P : Mk w0 W' gm l A c nx
  M : Mp W W' gm
  S : W'.heap[gs]? = some (.cells #[.int .i64 0, .slice none 0 0, .slice none 0 0, .slice none 0 0] 28 (0, 0))
  N : W'.heap[gn]? = some (.cells #[.int .i64 x.f0, .int .i64 x.f1, .slice An x.f2.length cn] 86 (0, 0))
  O : W'.heap[go_]? = some (.cells cs 28 (0, 0))
  h : w0.heap.size ≤ W.heap.size ∧ W.heap.size ≤ gs ∧ gs < go_ ∧ W.heap.size ≤ gn ∧ gn < go_ ∧ gm < W.heap.size
section
variable {w0 W W' W2 : World} {gm : Nat} {l : List Wn} {A : Option Addr} {c nx nx' : Nat} {gs gn : Nat} {x : Wn} {An : Option Addr} {cn : Nat} {go_ : Nat} {cs : Array Value}
theorem MX.step (h : MX w0 W W' gm l A c nx gs gn x An cn go_ cs) (hp : Mk w0 W2 gm l A c nx') (hv : Mp W' W2 gm) : MX w0 W W2 gm l A c nx' gs gn x An cn go_ cs :=
  ⟨hp, h.M.trans hv, h.P.keepB hv h.S (by decide), h.P.keepB hv h.N (by decide), h.P.keepB hv h.O (by decide), h.h⟩
theorem MX.below (h : MX w0 W W' gm l A c nx gs gn x An cn go_ cs) (hb : Below W'.heap.size W' W2) : MX w0 W W2 gm l A c nx gs gn x An cn go_ cs := h.step (h.P.below hb) (Mp.below gm hb)
theorem MX.grownO {row : Option Nat} (h : MX w0 W W' gm l A c nx gs gn x An cn go_ cs) (hg : W'.grownBy W2 row) (hr : ∀ g, row = some g → go_ < g) : MX w0 W W2 gm l A c nx gs gn x An cn go_ cs := by
  have hh := h.h
  exact ⟨h.P.grownO hg (fun g e => by have := hr g e; omega), h.M.grownO hg (fun g e => by have := hr g e; omega), blk_grown h.S hg (fun e => by have := hr gs e.symm; omega), blk_grown h.N hg (fun e => by have := hr gn e.symm; omega), blk_grown h.O hg (fun e => by have := hr go_ e.symm; omega), h.h⟩
theorem MX.set (h : MX w0 W W' gm l A c nx gs gn x An cn go_ cs) (i : Nat) (u : Value) : MX w0 W (W'.setCell ⟨go_, i, none⟩ u) gm l A c nx gs gn x An cn go_ (cs.setIfInBounds i u) := by
  have hh := h.h
  have hg := grown_set W' go_ i u
  exact ⟨h.P.grownO hg (fun g e => by injection e with e; subst e; omega), h.M.grownO hg (fun g e => by injection e with e; omega), blk_far h.S (p := ⟨go_, i, none⟩) (by show gs ≠ go_; omega) _, blk_far h.N (p := ⟨go_, i, none⟩) (by show gn ≠ go_; omega) _, blk_set h.O i u, h.h⟩
/-- The result is stored: the four cells of the answer. -/
theorem MX.done (h : MX w0 W W' gm l A c nx gs gn x An cn go_ cs) (u0 u1 u2 u3 : Value) :
    Mk w0 ((((W'.setCell ⟨gs, 0, none⟩ u0).setCell ⟨gs, 1, none⟩ u1).setCell ⟨gs, 2, none⟩ u2).setCell ⟨gs, 3, none⟩ u3) gm l A c nx ∧ Mp W ((((W'.setCell ⟨gs, 0, none⟩ u0).setCell ⟨gs, 1, none⟩ u1).setCell ⟨gs, 2, none⟩ u2).setCell ⟨gs, 3, none⟩ u3) gm := by
  have hh := h.h
  have one : ∀ (w2 : World) (i : Nat) (u : Value), Mk w0 w2 gm l A c nx ∧ Mp W w2 gm → Mk w0 (w2.setCell ⟨gs, i, none⟩ u) gm l A c nx ∧ Mp W (w2.setCell ⟨gs, i, none⟩ u) gm := by
    intro w2 i u hp
    have hg := grown_set w2 gs i u
    exact ⟨hp.1.grownO hg (fun g e => by injection e with e; subst e; omega), hp.2.grownO hg (fun g e => by injection e with e; omega)⟩
  exact one _ 3 u3 (one _ 2 u2 (one _ 1 u1 (one _ 0 u0 ⟨h.P, h.M⟩)))
/-- What is stored is a copy. -/
theorem MX.copy {n : Nat} {k : Int} {v1 v2 v3 u0 u1 u2 u3 : Value} {l1 : List Pt} {l2 : List (List Pt)} {l3 : List Ge} {ok1 ok2 ok3 : Nat → Prop} (h : MX w0 W W' gm l A c nx gs gn x An cn go_ cs)
    (a1 : ∀ k, ok1 k → go_ < k) (a2 : ∀ k, ok2 k → go_ < k) (a3 : ∀ k, ok3 k → go_ < k) (d12 : ∀ k, ok1 k → ¬ ok2 k) (d13 : ∀ k, ok1 k → ¬ ok3 k) (d23 : ∀ k, ok2 k → ¬ ok3 k)
    (h1 : kPt.R 65 W' W.heap.size ok1 v1 l1) (h2 : Kd.S (Kd.slice 65 kPt) 24 W' W.heap.size ok2 v2 l2) (h3 : Kd.S (kSp n) 28 W' W.heap.size ok3 v3 l3) :
    CopyOf (n + 1) W ((((W'.setCell ⟨gs, 0, none⟩ u0).setCell ⟨gs, 1, none⟩ u1).setCell ⟨gs, 2, none⟩ u2).setCell ⟨gs, 3, none⟩ u3) (.agg #[.int .i64 k, v1, v2, v3]) ⟨k, l1, l2, l3⟩ := by
  have hh := h.h
  refine ⟨[.int .i64 k, v1, v2, v3], rfl, ?_⟩
  rw [kSp_M]
  exact ⟨v1, v2, v3, ok1, ok2, ok3, rfl, fun k h => by have := a1 k h; omega, fun k h => by have := a2 k h; omega, fun k h => by have := a3 k h; omega, d12, d13, d23,
    Kd.R_far (p := ⟨gs, 3, none⟩) (Kd.R_far (p := ⟨gs, 2, none⟩) (Kd.R_far (p := ⟨gs, 1, none⟩) (Kd.R_far (p := ⟨gs, 0, none⟩) h1 (fun k h => by have := a1 k h; show k ≠ gs; omega) _) (fun k h => by have := a1 k h; show k ≠ gs; omega) _) (fun k h => by have := a1 k h; show k ≠ gs; omega) _) (fun k h => by have := a1 k h; show k ≠ gs; omega) _,
    Kd.S_far (p := ⟨gs, 3, none⟩) (Kd.S_far (p := ⟨gs, 2, none⟩) (Kd.S_far (p := ⟨gs, 1, none⟩) (Kd.S_far (p := ⟨gs, 0, none⟩) h2 (fun k h => by have := a2 k h; show k ≠ gs; omega) _) (fun k h => by have := a2 k h; show k ≠ gs; omega) _) (fun k h => by have := a2 k h; show k ≠ gs; omega) _) (fun k h => by have := a2 k h; show k ≠ gs; omega) _,
    Kd.S_far (p := ⟨gs, 3, none⟩) (Kd.S_far (p := ⟨gs, 2, none⟩) (Kd.S_far (p := ⟨gs, 1, none⟩) (Kd.S_far (p := ⟨gs, 0, none⟩) h3 (fun k h => by have := a3 k h; show k ≠ gs; omega) _) (fun k h => by have := a3 k h; show k ≠ gs; omega) _) (fun k h => by have := a3 k h; show k ≠ gs; omega) _) (fun k h => by have := a3 k h; show k ≠ gs; omega) _⟩
end
/-- Before the tree is begun. -/
def MY (w0 W W' : World) (gm : Nat) (l : List Wn) (A : Option Addr) (c nx : Nat) (gs gn : Nat) (x : Wn) (An : Option Addr) (cn : Nat) : Prop :=
  Mk w0 W' gm l A c nx ∧ Mp W W' gm ∧ W'.heap[gs]? = some (.cells #[.int .i64 0, .slice none 0 0, .slice none 0 0, .slice none 0 0] 28 (0, 0)) ∧ W'.heap[gn]? = some (.cells #[.int .i64 x.f0, .int .i64 x.f1, .slice An x.f2.length cn] 86 (0, 0))
theorem MY.below {w0 W W' W2 : World} {gm : Nat} {l : List Wn} {A : Option Addr} {c nx : Nat} {gs gn : Nat} {x : Wn} {An : Option Addr} {cn : Nat} (h : MY w0 W W' gm l A c nx gs gn x An cn) (hb : Below W'.heap.size W' W2) : MY w0 W W2 gm l A c nx gs gn x An cn :=
  ⟨h.1.below hb, h.2.1.trans (Mp.below gm hb), blk_below h.2.2.1 hb, blk_below h.2.2.2 hb⟩
set_option maxRecDepth 100000 in
set_option maxHeartbeats 32000000 in
theorem mgeom_calls (n : Nat) : ∀ (w0 W : World) (gm : Nat) (l : List Wn) (A : Option Addr) (c nx : Nat) (kind levels : Int), Mk w0 W gm l A c nx → l.length ≤ 1048576 → (∀ x ∈ l, x.f2.length ≤ 1048576) → 1 ≤ n → levels ≤ n → -1000 ≤ levels → levels ≤ 1000 → 0 ≤ kind ∧ kind ≤ 7 →
    Calls Try.prog 19 #[.pointer (some ⟨gm, 0, none⟩), .int .i64 kind, .int .i64 levels] W fun e W' => ∃ u, e = .returned u ∧ CopyOf n W W' u (mkG l n nx kind levels).1 ∧ Mk w0 W' gm l A c (mkG l n nx kind levels).2 ∧ Mp W W' gm := by
  induction n with
  | zero => intro w0 W gm l A c nx kind levels _ _ _ h; omega
  | succ n ih =>
  intro w0 W gm l A c nx kind levels hM hl hxl hn1 hn hlv0 hlv1 hk
  have hgm := blk_lt hM.c
  have HW0 := Aside0.mk (show w0.heap.size ≤ W.heap.size from hM.K.size)
  have HM := Aside0.mk hM
  have IH := Aside0.mk ih
  have HN := Aside0.mk hn
  clear hM ih hn
  have hu := Try.underlying28
  have hun := Try.underlying86
  have hmx : Try.prog.follows .mixedOrders = true := by kernel_rfl
  obtain ⟨R, hR⟩ : ∃ R, R = mkG l (n + 1) nx kind levels := ⟨_, rfl⟩
  have HG := Aside0.mk hR
  rw [← hR]
  clear hR
  unfold mkG at HG
  obtain ⟨x, hx⟩ : ∃ y, y = (takeM l nx).1 := ⟨_, rfl⟩
  rw [← hx] at HG
  obtain ⟨nx1, hnx1⟩ : ∃ y, y = (takeM l nx).2 := ⟨_, rfl⟩
  rw [← hnx1] at HG
  have hxy : x.f2.length ≤ 1048576 := by
    rw [hx]
    unfold takeM
    split
    · exact Nat.zero_le _
    · rename_i h9
      refine hxl _ ?_
      rw [rd_Wn, Int.toNat_natCast, List.getD_eq_getElem?_getD, List.getElem?_eq_getElem (by omega)]
      exact List.getElem_mem _
  have HXN := Aside0.mk (And.intro hx hnx1)
  clear hx hnx1
  go_enter Try.func19, Try.ntmps19
  go_upto_region 1 with fail
  obtain ⟨gs, hgs⟩ : ∃ y, y = W.heap.size := ⟨_, rfl⟩
  obtain ⟨W0, hW0⟩ : ∃ y, y = W.alloc (.cells #[.int .i64 0, .slice none 0 0, .slice none 0 0, .slice none 0 0] 28) := ⟨_, rfl⟩
  rw [← hW0, ← hgs]
  have hb0 : Below W.heap.size W W0 := by rw [hW0]; exact below_alloc (Below.refl _ _) _
  have H0 := Aside0.mk (And.intro (HM.out.below hb0) (And.intro (Mp.below gm hb0) (show W0.heap[gs]? = some (.cells #[.int .i64 0, .slice none 0 0, .slice none 0 0, .slice none 0 0] 28 (0, 0)) by rw [hW0, hgs]; exact World.alloc_heap_new _ _)))
  have HGS := Aside0.mk (show W.heap.size ≤ gs by omega)
  clear hW0 hgs hb0 HM
  go_wp2_with fail
  refine (take_calls w0 W0 gm l A c nx H0.out.1 hl).mono ?_
  rintro e W1 ⟨u, rfl, ⟨An, cn, rfl, hln, hcn⟩, hk1, hv1⟩
  rw [← HXN.out.1] at hln hcn ⊢
  rw [← HXN.out.2] at hk1
  have HC := Aside0.mk (And.intro hln hcn)
  have H1 := Aside0.mk (And.intro hk1 (And.intro (H0.out.2.1.trans hv1) (H0.out.1.keepB hv1 H0.out.2.2 (by decide))))
  clear hk1 hv1 hln hcn H0 HXN
  go_upto_region 2 with fail
  obtain ⟨gn, hgn⟩ : ∃ y, y = W1.heap.size := ⟨_, rfl⟩
  obtain ⟨W2, hW2⟩ : ∃ y, y = W1.alloc (.cells #[.int .i64 x.f0, .int .i64 x.f1, .slice An x.f2.length cn] 86) := ⟨_, rfl⟩
  rw [← hW2, ← hgn]
  have hb2 : Below W1.heap.size W1 W2 := by rw [hW2]; exact below_alloc (Below.refl _ _) _
  have hY : MY w0 W W2 gm l A c nx1 gs gn x An cn := ⟨H1.out.1.below hb2, H1.out.2.1.trans (Mp.below gm hb2), blk_below H1.out.2.2 hb2, by rw [hW2, hgn]; exact World.alloc_heap_new _ _⟩
  have HY := Aside0.mk hY
  have HGN := Aside0.mk (show W.heap.size ≤ gn by have := H1.out.2.1.s; omega)
  clear hW2 hgn hb2 hY H1
  obtain ⟨k1, hk1⟩ : ∃ y, y = (if kind = 0 then 1 + intoN x.f0 7 else kind) := ⟨_, rfl⟩
  have HK1 := Aside0.mk hk1
  have hr7 := intoN_range x.f0 7 (by decide)
  have hk1r : 0 ≤ k1 ∧ k1 ≤ 7 := by rw [hk1]; split <;> omega
  clear hr7 hk1
  go_upto_if 16 with fail
  go_cut [1] from 17 to 20 (fun v wx => v = .int .i64 k1 ∧ MY w0 W wx gm l A c nx1 gs gn x An cn)
  case first =>
    by_cases k0 : kind = 0
    · have n0 : W2.cell? ⟨gn, 0, none⟩ = some (.int .i64 x.f0) := (blk_cell HY.out.2.2.2 0).trans rfl
      have hr7 := intoN_range x.f0 7 (by decide)
      have he : k1 = 1 + intoN x.f0 7 := by rw [HK1.out, if_pos k0]
      subst k0
      go_wp2_with fail
      refine (intoM_calls x.f0 7 (by decide) (by decide) W2).mono ?_
      rintro e W3 ⟨rfl, hb3⟩
      obtain ⟨i7, hi7⟩ : ∃ y, y = intoN x.f0 7 := ⟨_, rfl⟩
      rw [← hi7] at hr7 ⊢
      have hw7 : wrap64 (1 + i7) = 1 + i7 := by unfold wrap64; omega
      go_wp2_with fail
      go_meet
      exact ⟨by rw [he], HY.out.below hb3⟩
    · have k0b : (kind == 0) = false := beq_eq_false_iff_ne.mpr k0
      have he : k1 = kind := by rw [HK1.out, if_neg k0]
      go_wp2_with fail
      go_meet
      exact ⟨by rw [he], HY.out⟩
  case rest =>
  obtain ⟨rfl, hY⟩ := hcut
  have HY3 := Aside0.mk hY
  clear hY HY
  obtain ⟨k, hk_⟩ : ∃ y, y = kindM x kind levels := ⟨_, rfl⟩
  have hkm : k = if levels < 2 ∧ 3 < k1 then 1 else k1 := by rw [hk_, HK1.out]; rfl
  have HKM := Aside0.mk (And.intro hk_ (kindM_range x kind levels hk))
  rw [← hk_] at HG
  clear hk_
  go_upto_region 4 with fail
  go_cut [26] from 21 to 25 (fun v wx => v = .bool (decide (levels < 2 ∧ 3 < k1)) ∧ wx = wc)
  case first =>
    by_cases c1 : levels < 2
    · by_cases c2 : 3 < k1
      · have hd : decide (levels < 2 ∧ 3 < k1) = true := decide_eq_true ⟨c1, c2⟩
        go_wp2_with fail
        go_meet
        exact ⟨by rw [hd], rfl⟩
      · have hd : decide (levels < 2 ∧ 3 < k1) = false := decide_eq_false (fun h => c2 h.2)
        go_wp2_with fail
        go_meet
        exact ⟨by rw [hd], rfl⟩
    · have hd : decide (levels < 2 ∧ 3 < k1) = false := decide_eq_false (fun h => c1 h.1)
      go_wp2_with fail
      go_meet
      exact ⟨by rw [hd], rfl⟩
  case rest =>
  obtain ⟨rfl, rfl⟩ := hcut
  go_upto_if 26 with fail
  go_cut [1] (fun v wx => v = .int .i64 k ∧ wx = wc)
  case first =>
    by_cases c1 : levels < 2 ∧ 3 < k1
    · rw [if_pos c1] at hkm
      go_wp2_with fail
      go_meet
      exact ⟨by rw [hkm], rfl⟩
    · rw [if_neg c1] at hkm
      go_wp2_with fail
      go_meet
      exact ⟨by rw [hkm], rfl⟩
  case rest =>
  obtain ⟨rfl, rfl⟩ := hcut
  clear hkm
  have n1 : wc.cell? ⟨gn, 1, none⟩ = some (.int .i64 x.f1) := (blk_cell HY3.out.2.2.2 1).trans rfl
  go_upto_region 7 with fail
  refine (intoM_calls x.f1 5 (by decide) (by decide) wc).mono ?_
  rintro e W4 ⟨rfl, hb4⟩
  have hm5 := manyM_lt x
  obtain ⟨m, hm⟩ : ∃ y, y = manyM x := ⟨_, rfl⟩
  rw [← hm] at hm5 HG
  rw [← hm5.2]
  have hm4 := hm5.1
  have HY4 := Aside0.mk (HY3.out.below hb4)
  clear hb4 HY3 n1 hm5 hm
  go_upto_region 8 with fail
  obtain ⟨go_, hgo⟩ : ∃ y, y = W4.heap.size := ⟨_, rfl⟩
  obtain ⟨W7, hW7⟩ : ∃ y, y = W4.alloc (.cells #[.int .i64 k, .slice none 0 0, .slice none 0 0, .slice none 0 0] 28) := ⟨_, rfl⟩
  rw [← hW7, ← hgo]
  have RX := Aside0.mk (show MX w0 W W7 gm l A c nx1 gs gn x An cn go_ #[.int .i64 k, .slice none 0 0, .slice none 0 0, .slice none 0 0] by
    have hb7 : Below W4.heap.size W4 W7 := by rw [hW7]; exact below_alloc (Below.refl _ _) _
    have h7 := HY4.out.below hb7
    have hlt := blk_lt HY4.out.2.2.1
    have hlt2 := blk_lt HY4.out.2.2.2
    exact ⟨h7.1, h7.2.1, h7.2.2.1, h7.2.2.2, by rw [hW7, hgo]; exact World.alloc_heap_new _ _, HW0.out, HGS.out, by omega, HGN.out, by omega, hgm⟩)
  clear hW7 hgo HY4
  have n0_ : W7.cell? ⟨gn, 0, none⟩ = some (.int .i64 x.f0) := (blk_cell RX.out.N 0).trans rfl
  have n1_ : W7.cell? ⟨gn, 1, none⟩ = some (.int .i64 x.f1) := (blk_cell RX.out.N 1).trans rfl
  have n2_ : W7.cell? ⟨gn, 2, none⟩ = some (.slice An x.f2.length cn) := (blk_cell RX.out.N 2).trans rfl
  have hkr := HKM.out.2
  rw [← HKM.out.1] at hkr
  by_cases k1 : k = 1
  · rw [if_pos k1] at HG
    have k1a : (k == 1) = true := beq_iff_eq.mpr k1
    have HKE := Aside0.mk k1
    clear k1
    go_wp2_with fail
    rw [show (m : Int) % 2 = ((m % 2 : Nat) : Int) from by omega]
    refine (pointsM_calls x An cn (m % 2) W7 (Kd.C_below HC.out.2 RX.out.P.K) HC.out.1 (by omega) (by omega)).mono ?_
    rintro e W8 ⟨u, rfl, hRu, hb8⟩
    clear n0_ n1_ n2_
    obtain ⟨pl, hpl⟩ : ∃ y, y = ptsM x.f2 (m % 2) := ⟨_, rfl⟩
    rw [← hpl] at hRu HG
    obtain ⟨A8, c8, e8⟩ := Kd.R_slice hRu
    subst e8
    have rx := RX.out.below hb8
    have hs1 : W8.cell? ⟨go_, 1, none⟩ = some (.slice none 0 0) := (blk_cell rx.O 1).trans rfl
    have hf1 := blk_frozen rx.O 1
    have RX8 := Aside0.mk (And.intro rx hRu)
    have HSZ := Aside0.mk (show go_ < W7.heap.size from blk_lt RX.out.O)
    clear rx hRu hb8 RX hpl
    go_upto_region 25 with fail
    obtain ⟨v8, hv8⟩ : ∃ v, v = Value.slice A8 pl.length c8 := ⟨_, rfl⟩
    rw [← hv8] at RX8 ⊢
    obtain ⟨W9, hW9⟩ : ∃ y, y = W8.setCell ⟨go_, 1, none⟩ v8 := ⟨_, rfl⟩
    rw [← hW9]
    have RX9 := Aside0.mk (show MX w0 W W9 gm l A c nx1 gs gn x An cn go_ #[.int .i64 k, v8, .slice none 0 0, .slice none 0 0] by rw [hW9]; simpa using RX8.out.1.set 1 v8)
    have HL := Aside0.mk (show kPt.R 65 W9 W.heap.size (fun k => go_ < k) v8 pl by
      have hz := HSZ.out
      have hq := RX8.out.1.h
      rw [hW9]
      exact Kd.R_far (p := ⟨go_, 1, none⟩) (Kd.R_lower (Kd.R_mono (Kd.R_bound RX8.out.2) (fun k h => by have := h.2.1; omega)) (by omega)) (fun k h => by show k ≠ go_; omega) _)
    have HG2 := Aside0.mk (show R = (⟨k, pl, [], []⟩, nx1) by rw [HG.out, HKE.out])
    clear hW9 RX8 hs1 hf1
    subst hv8
    have rz_ := RX9.out
    have r0 : W9.cell? ⟨gs, 0, none⟩ = some (.int .i64 0) := (blk_cell rz_.S 0).trans rfl
    have t0 := blk_frozen rz_.S 0
    have r1 : W9.cell? ⟨gs, 1, none⟩ = some (.slice none 0 0) := (blk_cell rz_.S 1).trans rfl
    have t1 := blk_frozen rz_.S 1
    have r2 : W9.cell? ⟨gs, 2, none⟩ = some (.slice none 0 0) := (blk_cell rz_.S 2).trans rfl
    have t2 := blk_frozen rz_.S 2
    have r3 : W9.cell? ⟨gs, 3, none⟩ = some (.slice none 0 0) := (blk_cell rz_.S 3).trans rfl
    have t3 := blk_frozen rz_.S 3
    have o0 : W9.cell? ⟨go_, 0, none⟩ = some (.int .i64 k) := (blk_cell rz_.O 0).trans rfl
    have o1 : W9.cell? ⟨go_, 1, none⟩ = some (.slice A8 pl.length c8) := (blk_cell rz_.O 1).trans rfl
    have o2 : W9.cell? ⟨go_, 2, none⟩ = some (.slice none 0 0) := (blk_cell rz_.O 2).trans rfl
    have o3 : W9.cell? ⟨go_, 3, none⟩ = some (.slice none 0 0) := (blk_cell rz_.O 3).trans rfl
    have RZ := Aside0.mk rz_
    clear rz_
    go_wp2_with fail
    have bk := (blk_set (blk_set (blk_set (blk_set RZ.out.S 0 (.int .i64 k)) 1 (.slice A8 pl.length c8)) 2 (.slice none 0 0)) 3 (.slice none 0 0))
    refine bodyPost_ret (results_geom (a := 6) (by rfl) _ _ (by rfl) (by simpa using bk)) rfl ?_
    have dn_ := RZ.out.done (.int .i64 k) (.slice A8 pl.length c8) (.slice none 0 0) (.slice none 0 0)
    rw [HG2.out]
    exact ⟨_, rfl, RZ.out.copy (ok1 := fun k => go_ < k) (ok2 := fun _ => False) (ok3 := fun _ => False) (fun _ h => h) (fun _ h => h.elim) (fun _ h => h.elim) (fun _ _ h => h) (fun _ _ h => h) (fun _ h => h.elim) HL.out (Kd.S_nil _ _ _ _ _) (Kd.S_nil _ _ _ _ _), dn_.1, dn_.2⟩
  have k1a : (k == 1) = false := beq_eq_false_iff_ne.mpr k1
  rw [if_neg k1] at HG
  by_cases k2 : k = 2
  · rw [if_pos k2] at HG
    have k2a : (k == 2) = true := beq_iff_eq.mpr k2
    have HKE := Aside0.mk k2
    clear k1 k2
    go_wp2_with fail
    refine (pointsM_calls x An cn m W7 (Kd.C_below HC.out.2 RX.out.P.K) HC.out.1 (by omega) (by omega)).mono ?_
    rintro e W8 ⟨u, rfl, hRu, hb8⟩
    clear n0_ n1_ n2_
    obtain ⟨pl, hpl⟩ : ∃ y, y = ptsM x.f2 m := ⟨_, rfl⟩
    rw [← hpl] at hRu HG
    obtain ⟨A8, c8, e8⟩ := Kd.R_slice hRu
    subst e8
    have rx := RX.out.below hb8
    have hs1 : W8.cell? ⟨go_, 1, none⟩ = some (.slice none 0 0) := (blk_cell rx.O 1).trans rfl
    have hf1 := blk_frozen rx.O 1
    have RX8 := Aside0.mk (And.intro rx hRu)
    have HSZ := Aside0.mk (show go_ < W7.heap.size from blk_lt RX.out.O)
    clear rx hRu hb8 RX hpl
    go_upto_region 25 with fail
    obtain ⟨v8, hv8⟩ : ∃ v, v = Value.slice A8 pl.length c8 := ⟨_, rfl⟩
    rw [← hv8] at RX8 ⊢
    obtain ⟨W9, hW9⟩ : ∃ y, y = W8.setCell ⟨go_, 1, none⟩ v8 := ⟨_, rfl⟩
    rw [← hW9]
    have RX9 := Aside0.mk (show MX w0 W W9 gm l A c nx1 gs gn x An cn go_ #[.int .i64 k, v8, .slice none 0 0, .slice none 0 0] by rw [hW9]; simpa using RX8.out.1.set 1 v8)
    have HL := Aside0.mk (show kPt.R 65 W9 W.heap.size (fun k => go_ < k) v8 pl by
      have hz := HSZ.out
      have hq := RX8.out.1.h
      rw [hW9]
      exact Kd.R_far (p := ⟨go_, 1, none⟩) (Kd.R_lower (Kd.R_mono (Kd.R_bound RX8.out.2) (fun k h => by have := h.2.1; omega)) (by omega)) (fun k h => by show k ≠ go_; omega) _)
    have HG2 := Aside0.mk (show R = (⟨k, pl, [], []⟩, nx1) by rw [HG.out, HKE.out])
    clear hW9 RX8 hs1 hf1
    subst hv8
    have rz_ := RX9.out
    have r0 : W9.cell? ⟨gs, 0, none⟩ = some (.int .i64 0) := (blk_cell rz_.S 0).trans rfl
    have t0 := blk_frozen rz_.S 0
    have r1 : W9.cell? ⟨gs, 1, none⟩ = some (.slice none 0 0) := (blk_cell rz_.S 1).trans rfl
    have t1 := blk_frozen rz_.S 1
    have r2 : W9.cell? ⟨gs, 2, none⟩ = some (.slice none 0 0) := (blk_cell rz_.S 2).trans rfl
    have t2 := blk_frozen rz_.S 2
    have r3 : W9.cell? ⟨gs, 3, none⟩ = some (.slice none 0 0) := (blk_cell rz_.S 3).trans rfl
    have t3 := blk_frozen rz_.S 3
    have o0 : W9.cell? ⟨go_, 0, none⟩ = some (.int .i64 k) := (blk_cell rz_.O 0).trans rfl
    have o1 : W9.cell? ⟨go_, 1, none⟩ = some (.slice A8 pl.length c8) := (blk_cell rz_.O 1).trans rfl
    have o2 : W9.cell? ⟨go_, 2, none⟩ = some (.slice none 0 0) := (blk_cell rz_.O 2).trans rfl
    have o3 : W9.cell? ⟨go_, 3, none⟩ = some (.slice none 0 0) := (blk_cell rz_.O 3).trans rfl
    have RZ := Aside0.mk rz_
    clear rz_
    go_wp2_with fail
    have bk := (blk_set (blk_set (blk_set (blk_set RZ.out.S 0 (.int .i64 k)) 1 (.slice A8 pl.length c8)) 2 (.slice none 0 0)) 3 (.slice none 0 0))
    refine bodyPost_ret (results_geom (a := 6) (by rfl) _ _ (by rfl) (by simpa using bk)) rfl ?_
    have dn_ := RZ.out.done (.int .i64 k) (.slice A8 pl.length c8) (.slice none 0 0) (.slice none 0 0)
    rw [HG2.out]
    exact ⟨_, rfl, RZ.out.copy (ok1 := fun k => go_ < k) (ok2 := fun _ => False) (ok3 := fun _ => False) (fun _ h => h) (fun _ h => h.elim) (fun _ h => h.elim) (fun _ _ h => h) (fun _ _ h => h) (fun _ h => h.elim) HL.out (Kd.S_nil _ _ _ _ _) (Kd.S_nil _ _ _ _ _), dn_.1, dn_.2⟩
  have k2a : (k == 2) = false := beq_eq_false_iff_ne.mpr k2
  rw [if_neg k2] at HG
  clear n0_ n1_ n2_
  by_cases k3 : k = 3
  · rw [if_pos k3] at HG
    have k3a : (k == 3) = true := beq_iff_eq.mpr k3
    have HKE := Aside0.mk k3
    clear k1 k2 k3
    go_wp2_with fail
    go_loopg [10] m (fun kq i wr => ∃ (j : Nat) (v2 : Value) (dn : List (List Pt)), j + kq = m ∧ i = .int .i64 (j : Int) ∧ Aside0 (dn = (List.range j).map (fun i => ptsM x.f2 (1 + i))) ∧ Aside0 (MX w0 W wr gm l A c nx1 gs gn x An cn go_ #[.int .i64 k, .slice none 0 0, v2, .slice none 0 0]) ∧ Aside0 (Kd.S (Kd.slice 65 kPt) 24 wr W.heap.size (fun k => go_ < k) v2 dn) ∧ Aside0 (dn.length = j))
    case atStart => exact ⟨0, _, [], by omega, rfl, ⟨rfl⟩, RX, ⟨Kd.S_nil _ _ _ _ _⟩, ⟨rfl⟩⟩
    case round =>
      clear RX
      obtain ⟨j, v2, dn, hj, rfl, HRR, RX, HS, HJ⟩ := hrel
      cases gk with
      | zero =>
        have hlt : ¬ ((j : Int) < (m : Int)) := by omega
        have hjm : j = m := by omega
        have HG2 := Aside0.mk (show R = (⟨k, [], dn, []⟩, nx1) by rw [HG.out, HRR.out, HKE.out, hjm])
        clear hjm
        go_upto_region 25 with fail
        obtain ⟨A8, c8, e8⟩ := Kd.S_slice HS.out
        subst e8
        have rz_ := RX.out
        have r0 : wr.cell? ⟨gs, 0, none⟩ = some (.int .i64 0) := (blk_cell rz_.S 0).trans rfl
        have t0 := blk_frozen rz_.S 0
        have r1 : wr.cell? ⟨gs, 1, none⟩ = some (.slice none 0 0) := (blk_cell rz_.S 1).trans rfl
        have t1 := blk_frozen rz_.S 1
        have r2 : wr.cell? ⟨gs, 2, none⟩ = some (.slice none 0 0) := (blk_cell rz_.S 2).trans rfl
        have t2 := blk_frozen rz_.S 2
        have r3 : wr.cell? ⟨gs, 3, none⟩ = some (.slice none 0 0) := (blk_cell rz_.S 3).trans rfl
        have t3 := blk_frozen rz_.S 3
        have o0 : wr.cell? ⟨go_, 0, none⟩ = some (.int .i64 k) := (blk_cell rz_.O 0).trans rfl
        have o1 : wr.cell? ⟨go_, 1, none⟩ = some (.slice none 0 0) := (blk_cell rz_.O 1).trans rfl
        have o2 : wr.cell? ⟨go_, 2, none⟩ = some (.slice A8 dn.length c8) := (blk_cell rz_.O 2).trans rfl
        have o3 : wr.cell? ⟨go_, 3, none⟩ = some (.slice none 0 0) := (blk_cell rz_.O 3).trans rfl
        have RZ := Aside0.mk rz_
        clear rz_
        go_wp2_with fail
        have bk := (blk_set (blk_set (blk_set (blk_set RZ.out.S 0 (.int .i64 k)) 1 (.slice none 0 0)) 2 (.slice A8 dn.length c8)) 3 (.slice none 0 0))
        refine bodyPost_ret (results_geom (a := 6) (by rfl) _ _ (by rfl) (by simpa using bk)) rfl ?_
        have dn_ := RZ.out.done (.int .i64 k) (.slice none 0 0) (.slice A8 dn.length c8) (.slice none 0 0)
        rw [HG2.out]
        exact ⟨_, rfl, RZ.out.copy (ok1 := fun _ => False) (ok2 := fun k => go_ < k) (ok3 := fun _ => False) (fun _ h => h.elim) (fun _ h => h) (fun _ h => h.elim) (fun _ h => h.elim) (fun _ h => h.elim) (fun _ _ h => h) (Kd.R_nil _ _ _ _ _) HS.out (Kd.S_nil _ _ _ _ _), dn_.1, dn_.2⟩
      | succ kq =>
        have hlt : (j : Int) < (m : Int) := by omega
        have hj5 : j < 5 := by omega
        have hwj : IntKind.i64.wrap (1 + (j : Int)) = 1 + (j : Int) := by rw [IntKind.wrap_i64]; omega
        go_upto_region 24 with fail
        have q0 := RX.out.below (below_drew (Below.refl _ _))
        have s0 := Kd.S_drew HS.out
        have hgz : go_ < wr.drew.heap.size := blk_lt q0.O
        refine start_ (n := 10) (S := fun w' => w'.cell? ⟨go_, 2, none⟩ = some v2 ∧ w'.cell? ⟨gn, 0, none⟩ = some (.int .i64 x.f0) ∧ w'.cell? ⟨gn, 1, none⟩ = some (.int .i64 x.f1) ∧ w'.cell? ⟨gn, 2, none⟩ = some (.slice An x.f2.length cn) ∧ True) (ds := [9]) #[false, false, false, false, false, false, false, false, false, false] hmx rfl rfl ⟨(blk_cell q0.O 2).trans rfl, (blk_cell q0.N 0).trans rfl, (blk_cell q0.N 1).trans rfl, (blk_cell q0.N 2).trans rfl, trivial⟩ (fun hHeld => ?_)
        clear RX HS
        generalize wr.drew = Wb at q0 s0 hgz hHeld ⊢
        (refine pure_ (i := 0) (N := some 72) (v := ?_) (a' := ?_) #[true, false, false, false, false, false, false, false, false, false] rfl rfl (by kernel_rfl) (fun _ _ _ h => h) (Or.inl ⟨by rfl, ?_⟩) ?_ ?_; rotate_left; (focus (intro w'_; go_simp; with_reducible rfl)); rotate_left; (focus (simp only [Act.put, List.setIfInBounds_toArray, List.set_cons_zero, List.set_cons_succ]; rfl)))
        (refine pure_ (i := 3) (N := some 75) (v := ?_) (a' := ?_) #[true, false, false, true, false, false, false, false, false, false] rfl rfl (by kernel_rfl) (fun _ _ _ h => h) (Or.inl ⟨by rfl, ?_⟩) ?_ ?_; rotate_left; (focus (intro w'_; go_simp; with_reducible rfl)); rotate_left; (focus (simp only [Act.put, List.setIfInBounds_toArray, List.set_cons_zero, List.set_cons_succ]; rfl)))
        (refine pure_ (i := 4) (N := some 76) (v := ?_) (a' := ?_) #[true, false, false, true, true, false, false, false, false, false] rfl rfl (by kernel_rfl) (fun _ _ _ h => h) (Or.inl ⟨by rfl, ?_⟩) ?_ ?_; rotate_left; (focus (intro w'_; go_simp; with_reducible rfl)); rotate_left; (focus (simp only [Act.put, List.setIfInBounds_toArray, List.set_cons_zero, List.set_cons_succ]; rfl)))
        (refine take_ (i := 1) (N := some 73) (v := ?_) (a' := ?_) #[true, true, false, true, true, false, false, false, false, false] rfl rfl (by kernel_rfl) (fun _ _ _ h => h) (Or.inl ⟨by rfl, ?_⟩) hHeld ?_ ?_; rotate_left; (focus (intro w'_ hs_; (repeat obtain ⟨_, hs_⟩ := hs_); go_simp; with_reducible rfl)); rotate_left; (focus (simp only [Act.put, List.setIfInBounds_toArray, List.set_cons_zero, List.set_cons_succ]; rfl)))
        (refine take_ (i := 2) (N := some 74) (v := ?_) (a' := ?_) #[true, true, true, true, true, false, false, false, false, false] rfl rfl (by kernel_rfl) (fun _ _ _ h => h) (Or.inl ⟨by rfl, ?_⟩) hHeld ?_ ?_; rotate_left; (focus (intro w'_ hs_; (repeat obtain ⟨_, hs_⟩ := hs_); go_simp; with_reducible rfl)); rotate_left; (focus (simp only [Act.put, List.setIfInBounds_toArray, List.set_cons_zero, List.set_cons_succ]; rfl)))
        refine one_ (i := 5) (N := some 77) #[true, true, true, true, true, true, false, false, false, false] rfl rfl (by kernel_rfl) (by decide) (fun K hK => ?_)
        refine goes_ Try.func32 (by kernel_rfl) rfl #[.agg #[.int .i64 x.f0, .int .i64 x.f1, .slice An x.f2.length cn], .int .i64 (1 + (j : Int))] (by rfl) rfl rfl (by (try simp only [List.map_toArray, List.map_cons, List.map_nil]); first | done | rfl) ?_
        have hpc := pointsM_calls x An cn (1 + j) Wb (Kd.C_below HC.out.2 q0.P.K) HC.out.1 (by omega) (by omega)
        rw [show (((1 + j : Nat)) : Int) = 1 + (j : Int) from by omega] at hpc
        refine hpc.mono ?_
        rintro e w1 ⟨u, rfl, hRu, hb1⟩
        have nx1_ := q0.below hb1
        have s3' := q0.P.keepS (Mp.below gm hb1) s0 (by decide)
        have hvlt := Kd.S_lt s0
        have hz1 : Wb.heap.size ≤ w1.heap.size := hb1.size
        obtain ⟨pl, hpl⟩ : ∃ y, y = ptsM x.f2 (1 + j) := ⟨_, rfl⟩
        rw [← hpl] at hRu
        obtain ⟨A5, c5, e5⟩ := Kd.R_slice hRu
        subst e5
        have HR2 := Aside0.mk (show dn ++ [pl] = (List.range (j + 1)).map (fun i => ptsM x.f2 (1 + i)) by
          rw [HRR.out, List.range_succ, List.map_append, hpl]
          rfl)
        clear q0 s0 hpc hb1 hpl
        refine ⟨_, rfl, hK.out _ _ ⟨(blk_cell nx1_.O 2).trans rfl, (blk_cell nx1_.N 0).trans rfl, (blk_cell nx1_.N 1).trans rfl, (blk_cell nx1_.N 2).trans rfl, trivial⟩ (fun hHeld2 => ?_)⟩
        clear hK K hHeld
        (refine norm_ (a' := ?_) ?_ ?_; rotate_left; focus (show Act.put _ (some 77) _ = _; simp only [Act.put, List.setIfInBounds_toArray, List.set_cons_zero, List.set_cons_succ]; rfl))
        refine one_ (i := 6) (N := some 78) #[true, true, true, true, true, true, true, false, false, false] rfl rfl (by kernel_rfl) (by decide) (fun K hK => ?_)
        (refine value_ (w1 := ?_) (v := ?_) (by rfl) rfl ?_ ?_; rotate_left 2; (focus (go_simp; constructor <;> rfl)))
        have nxa := nx1_.below (below_alloc (Below.refl _ w1) (.cells #[.slice A5 pl.length c5] 24))
        refine hK.out _ _ ⟨(blk_cell nxa.O 2).trans rfl, (blk_cell nxa.N 0).trans rfl, (blk_cell nxa.N 1).trans rfl, (blk_cell nxa.N 2).trans rfl, trivial⟩ (fun hHeld => ?_)
        clear hK K hHeld2 nxa
        (refine norm_ (a' := ?_) ?_ ?_; rotate_left; focus (show Act.put _ (some 78) _ = _; simp only [Act.put, List.setIfInBounds_toArray, List.set_cons_zero, List.set_cons_succ]; rfl))
        refine one_ (i := 7) (N := some 79) #[true, true, true, true, true, true, true, true, false, false] rfl rfl (by kernel_rfl) (by decide) (fun K hK => ?_)
        have hord := nx1_.h
        refine Kd.S_append_step (Kd.slice 65 kPt) (w0 := w1) W.heap.size (by rfl) (.tmp 73) (.tmp 78) 25 24 (.slice none 0 0) 24 rfl Try.underlying25 infoPts rfl (by decide) (by omega) v2 dn pl [.slice A5 pl.length c5] (fun k => go_ < k) (fun k => Wb.heap.size ≤ k) rfl rfl ?aP ?aK ?aF ?aO ?aB ?aS ?aL ?_
        case aP => exact Kd.M_row (Kd.R_lower (Kd.R_mono (Kd.R_bound hRu) (fun k h => h.2.1)) (by omega))
        case aK => exact fun k h => ⟨by omega, fun e => by have := hvlt k e.symm; omega⟩
        case aF => exact fun k h => by have := blk_lt nx1_.O; omega
        case aO => exact Kd.S_mono s3' (fun k h => ⟨h.1, by have := h.2; show ¬ _ ≤ k; omega⟩)
        case aB => exact Below.refl _ _
        case aS => have := blk_lt nx1_.S; omega
        case aL => have := HJ.out; omega
        intro v3 w2 ho2 hb2 hg2 hat2
        obtain ⟨TT, hTT⟩ : ∃ TT, TT = dn ++ [pl] := ⟨_, rfl⟩
        rw [← hTT] at ho2 HR2
        have HTT := Aside0.mk (show TT.length = j + 1 by have := HJ.out; rw [hTT, List.length_append]; simp; omega)
        clear hTT
        obtain ⟨A6, c6, e6⟩ := Kd.S_slice ho2
        subst e6
        have nx2 := nx1_.grownO hg2 (fun k e => by
          obtain ⟨h1, h2⟩ := (Kd.S_R (Kd.S_bound s3')).1 k e
          exact h1.1)
        clear nx1_ s3' hvlt hat2 hg2 hb2 hRu
        refine hK.out _ _ ⟨(blk_cell nx2.O 2).trans rfl, (blk_cell nx2.N 0).trans rfl, (blk_cell nx2.N 1).trans rfl, (blk_cell nx2.N 2).trans rfl, trivial⟩ (fun hHeld2 => ?_)
        clear hK K hHeld
        (refine norm_ (a' := ?_) ?_ ?_; rotate_left; focus (show Act.put _ (some 79) _ = _; simp only [Act.put, List.setIfInBounds_toArray, List.set_cons_zero, List.set_cons_succ]; rfl))
        (refine pure_ (i := 8) (N := some 80) (v := ?_) (a' := ?_) #[true, true, true, true, true, true, true, true, true, false] rfl rfl (by kernel_rfl) (fun _ _ _ h => h) (Or.inl ⟨by rfl, ?_⟩) ?_ ?_; rotate_left; (focus (intro w'_; go_simp; with_reducible rfl)); rotate_left; (focus (simp only [Act.put, List.setIfInBounds_toArray, List.set_cons_zero, List.set_cons_succ]; rfl)))
        refine last_ (i := 9) (N := none) #[true, true, true, true, true, true, true, true, true, true] rfl rfl (by kernel_rfl) (by decide) (fun K hK => ?_)
        have hs0 : w2.cell? ⟨go_, 2, none⟩ = some v2 := (blk_cell nx2.O 2).trans rfl
        have hf0 := blk_frozen nx2.O 2
        refine skip_ (w1 := ?_) (by rfl) rfl ?_ ?_
        rotate_left
        · go_simp
          rfl
        refine hK.out _ _ ?_
        clear hK K
        refine done_ (by kernel_rfl) ?_
        have nx3 := nx2.set 2 (.slice A6 TT.length c6)
        have s4 := Kd.S_set ho2 nx2.O (by decide) 2 (.slice A6 TT.length c6)
        obtain ⟨v4, hv4⟩ : ∃ v, v = Value.slice A6 TT.length c6 := ⟨_, rfl⟩
        rw [← hv4] at nx3 s4 ⊢
        obtain ⟨W6, hW6⟩ : ∃ y, y = w2.setCell ⟨go_, 2, none⟩ v4 := ⟨_, rfl⟩
        rw [← hW6] at nx3 s4 ⊢
        have RX := Aside0.mk (show MX w0 W W6 gm l A c nx1 gs gn x An cn go_ #[.int .i64 k, .slice none 0 0, v4, .slice none 0 0] from by simpa using nx3)
        have HS := Aside0.mk s4
        clear hv4 hW6 nx2 nx3 s4 ho2 hs0 hf0 hHeld2 hord hwj
        go_wp2_with fail
        go_roundg kq
        case measure => omega
        case rel => exact ⟨j + 1, v4, TT, by omega, by go_num, HR2, RX, HS, HTT⟩
  have k3a : (k == 3) = false := beq_eq_false_iff_ne.mpr k3
  rw [if_neg k3] at HG
  obtain ⟨pk, hpk⟩ : ∃ y, y = (if k = 7 then 0 else k - 3) := ⟨_, rfl⟩
  rw [← hpk] at HG
  have hpkr : 0 ≤ pk ∧ pk ≤ 7 := by rw [hpk]; split <;> omega
  obtain ⟨F, hF⟩ : ∃ F, F = (fun p => mkG l n p pk (levels - 1)) := ⟨_, rfl⟩
  rw [← hF] at HG
  have HF := Aside0.mk hF
  have HPK := Aside0.mk hpk
  have HLV := Aside0.mk (show 1 ≤ n ∧ levels - 1 ≤ n ∧ -1000 ≤ levels - 1 ∧ levels - 1 ≤ 1000 by have := HN.out; have := hkr.2.2.1; omega)
  have hk4 : 4 ≤ k := by omega
  clear hF hpk hkr k1 k2 k3 hlv0
  go_upto_if 34 with fail
  go_cut [11] from 35 to 36 (fun v wx => v = .int .i64 pk ∧ wx = W7)
  case first =>
    have hpk := HPK.out
    by_cases k7 : k = 7
    · rw [if_pos k7] at hpk
      subst k7
      go_wp2_with fail
      go_meet
      exact ⟨by rw [hpk], rfl⟩
    · rw [if_neg k7] at hpk
      have k7a : (k == 7) = false := beq_eq_false_iff_ne.mpr k7
      have hk3 : wrap64 (k - 3) = k - 3 := by unfold wrap64; omega
      go_wp2_with fail
      go_meet
      exact ⟨by rw [hpk], rfl⟩
  case rest =>
  obtain ⟨rfl, rfl⟩ := hcut
  go_wp2_with fail
  go_loopg [12] m (fun kq i wr => ∃ (j nj : Nat) (v3 : Value) (dn : List Ge), j + kq = m ∧ i = .int .i64 (j : Int) ∧ Aside0 (partsM F j nx1 = (dn, nj)) ∧ Aside0 (MX w0 W wr gm l A c nj gs gn x An cn go_ #[.int .i64 k, .slice none 0 0, .slice none 0 0, v3]) ∧ Aside0 (Kd.S (kSp n) 28 wr W.heap.size (fun k => go_ < k) v3 dn) ∧ Aside0 (dn.length = j))
  case atStart => exact ⟨0, nx1, _, [], by omega, rfl, ⟨rfl⟩, RX, ⟨Kd.S_nil _ _ _ _ _⟩, ⟨rfl⟩⟩
  case round =>
    clear RX
    obtain ⟨j, nj, v3, dn, hj, rfl, HRR, RX, HS, HJ⟩ := hrel
    cases gk with
    | zero =>
      have hlt : ¬ ((j : Int) < (m : Int)) := by omega
      have hjm : j = m := by omega
      have HG2 := Aside0.mk (show R = (⟨k, [], [], dn⟩, nj) by rw [HG.out, ← hjm, HRR.out])
      clear hjm
      go_upto_region 25 with fail
      obtain ⟨A8, c8, e8⟩ := Kd.S_slice HS.out
      subst e8
      have rz_ := RX.out
      have r0 : wr.cell? ⟨gs, 0, none⟩ = some (.int .i64 0) := (blk_cell rz_.S 0).trans rfl
      have t0 := blk_frozen rz_.S 0
      have r1 : wr.cell? ⟨gs, 1, none⟩ = some (.slice none 0 0) := (blk_cell rz_.S 1).trans rfl
      have t1 := blk_frozen rz_.S 1
      have r2 : wr.cell? ⟨gs, 2, none⟩ = some (.slice none 0 0) := (blk_cell rz_.S 2).trans rfl
      have t2 := blk_frozen rz_.S 2
      have r3 : wr.cell? ⟨gs, 3, none⟩ = some (.slice none 0 0) := (blk_cell rz_.S 3).trans rfl
      have t3 := blk_frozen rz_.S 3
      have o0 : wr.cell? ⟨go_, 0, none⟩ = some (.int .i64 k) := (blk_cell rz_.O 0).trans rfl
      have o1 : wr.cell? ⟨go_, 1, none⟩ = some (.slice none 0 0) := (blk_cell rz_.O 1).trans rfl
      have o2 : wr.cell? ⟨go_, 2, none⟩ = some (.slice none 0 0) := (blk_cell rz_.O 2).trans rfl
      have o3 : wr.cell? ⟨go_, 3, none⟩ = some (.slice A8 dn.length c8) := (blk_cell rz_.O 3).trans rfl
      have RZ := Aside0.mk rz_
      clear rz_
      go_wp2_with fail
      have bk := (blk_set (blk_set (blk_set (blk_set RZ.out.S 0 (.int .i64 k)) 1 (.slice none 0 0)) 2 (.slice none 0 0)) 3 (.slice A8 dn.length c8))
      refine bodyPost_ret (results_geom (a := 6) (by rfl) _ _ (by rfl) (by simpa using bk)) rfl ?_
      have dn_ := RZ.out.done (.int .i64 k) (.slice none 0 0) (.slice none 0 0) (.slice A8 dn.length c8)
      rw [HG2.out]
      exact ⟨_, rfl, RZ.out.copy (ok1 := fun _ => False) (ok2 := fun _ => False) (ok3 := fun k => go_ < k) (fun _ h => h.elim) (fun _ h => h.elim) (fun _ h => h) (fun _ h => h.elim) (fun _ h => h.elim) (fun _ h => h.elim) (Kd.R_nil _ _ _ _ _) (Kd.S_nil _ _ _ _ _) HS.out, dn_.1, dn_.2⟩
    | succ kq =>
      have hlt : (j : Int) < (m : Int) := by omega
      have hj5 : j < 5 := by omega
      have hlv9 : IntKind.i64.wrap (levels - 1) = levels - 1 := by have := HLV.out; rw [IntKind.wrap_i64]; omega
      go_upto_region 15 with fail
      have q0 := RX.out.below (below_drew (Below.refl _ _))
      have s0 := Kd.S_drew HS.out
      have hgz : go_ < wr.drew.heap.size := blk_lt q0.O
      refine start_ (n := 11) (S := fun w' => w'.cell? ⟨go_, 3, none⟩ = some v3 ∧ True) (ds := [10]) #[false, false, false, false, false, false, false, false, false, false, false] hmx rfl rfl ⟨(blk_cell q0.O 3).trans rfl, trivial⟩ (fun hHeld => ?_)
      clear RX HS
      generalize wr.drew = Wb at q0 s0 hgz hHeld ⊢
      (refine pure_ (i := 0) (N := some 42) (v := ?_) (a' := ?_) #[true, false, false, false, false, false, false, false, false, false, false] rfl rfl (by kernel_rfl) (fun _ _ _ h => h) (Or.inl ⟨by rfl, ?_⟩) ?_ ?_; rotate_left; (focus (intro w'_; go_simp; with_reducible rfl)); rotate_left; (focus (simp only [Act.put, List.setIfInBounds_toArray, List.set_cons_zero, List.set_cons_succ]; rfl)))
      (refine pure_ (i := 2) (N := some 44) (v := ?_) (a' := ?_) #[true, false, true, false, false, false, false, false, false, false, false] rfl rfl (by kernel_rfl) (fun _ _ _ h => h) (Or.inl ⟨by rfl, ?_⟩) ?_ ?_; rotate_left; (focus (intro w'_; go_simp; with_reducible rfl)); rotate_left; (focus (simp only [Act.put, List.setIfInBounds_toArray, List.set_cons_zero, List.set_cons_succ]; rfl)))
      (refine pure_ (i := 3) (N := some 45) (v := ?_) (a' := ?_) #[true, false, true, true, false, false, false, false, false, false, false] rfl rfl (by kernel_rfl) (fun _ _ _ h => h) (Or.inl ⟨by rfl, ?_⟩) ?_ ?_; rotate_left; (focus (intro w'_; go_simp; with_reducible rfl)); rotate_left; (focus (simp only [Act.put, List.setIfInBounds_toArray, List.set_cons_zero, List.set_cons_succ]; rfl)))
      (refine pure_ (i := 4) (N := some 46) (v := ?_) (a' := ?_) #[true, false, true, true, true, false, false, false, false, false, false] rfl rfl (by kernel_rfl) (fun _ _ _ h => h) (Or.inl ⟨by rfl, ?_⟩) ?_ ?_; rotate_left; (focus (intro w'_; go_simp; with_reducible rfl)); rotate_left; (focus (simp only [Act.put, List.setIfInBounds_toArray, List.set_cons_zero, List.set_cons_succ]; rfl)))
      (refine pure_ (i := 5) (N := some 47) (v := ?_) (a' := ?_) #[true, false, true, true, true, true, false, false, false, false, false] rfl rfl (by kernel_rfl) (fun _ _ _ h => h) (Or.inl ⟨by rfl, ?_⟩) ?_ ?_; rotate_left; (focus (intro w'_; go_simp; with_reducible rfl)); rotate_left; (focus (simp only [Act.put, List.setIfInBounds_toArray, List.set_cons_zero, List.set_cons_succ]; rfl)))
      (refine take_ (i := 1) (N := some 43) (v := ?_) (a' := ?_) #[true, true, true, true, true, true, false, false, false, false, false] rfl rfl (by kernel_rfl) (fun _ _ _ h => h) (Or.inl ⟨by rfl, ?_⟩) hHeld ?_ ?_; rotate_left; (focus (intro w'_ hs_; (repeat obtain ⟨_, hs_⟩ := hs_); go_simp; with_reducible rfl)); rotate_left; (focus (simp only [Act.put, List.setIfInBounds_toArray, List.set_cons_zero, List.set_cons_succ]; rfl)))
      refine one_ (i := 6) (N := some 48) #[true, true, true, true, true, true, true, false, false, false, false] rfl rfl (by kernel_rfl) (by decide) (fun K hK => ?_)
      refine goes_ Try.func19 (by kernel_rfl) rfl #[.pointer (some ⟨gm, 0, none⟩), .int .i64 pk, .int .i64 (levels - 1)] (by rfl) rfl rfl (by (try simp only [List.map_toArray, List.map_cons, List.map_nil]); first | done | rfl) ?_
      refine (IH.out w0 Wb gm l A c nj pk (levels - 1) q0.P hl hxl HLV.out.1 HLV.out.2.1 HLV.out.2.2.1 HLV.out.2.2.2 hpkr).mono ?_
      rintro e w1 ⟨u, rfl, hcp, hp1, hv1⟩
      have s3' := q0.P.keepS hv1 s0 (fun q hq => (show ∀ q, q ∈ 28 :: [65, 24, 28] → q ≠ 61 by decide) q (by rcases List.mem_cons.1 hq with h | h; exact List.mem_cons.2 (.inl h); exact List.mem_cons.2 (.inr ((kSpP n).2.E q h))))
      have hvlt := Kd.S_lt s0
      have hz1 : Wb.heap.size ≤ w1.heap.size := hv1.s
      obtain ⟨gq, hgq⟩ : ∃ y, y = (mkG l n nj pk (levels - 1)).1 := ⟨_, rfl⟩
      obtain ⟨nq_, hnq⟩ : ∃ y, y = (mkG l n nj pk (levels - 1)).2 := ⟨_, rfl⟩
      rw [← hgq] at hcp
      rw [← hnq] at hp1
      have nx1_ := q0.step hp1 hv1
      obtain ⟨cs, rfl, hM⟩ := hcp
      obtain ⟨E1, e1, E2, e2, E3, e3, rfl, _⟩ := kGe_open (kSp_K n ((kSp n).K_of_M hM))
      have HR2 := Aside0.mk (show partsM F (j + 1) nx1 = (dn ++ [gq], nq_) by
        rw [partsM_snoc, HRR.out, HF.out, hgq, hnq])
      clear hp1 hv1 q0 s0 hgq hnq
      refine ⟨_, rfl, hK.out _ _ ⟨(blk_cell nx1_.O 3).trans rfl, trivial⟩ (fun hHeld2 => ?_)⟩
      clear hK K hHeld
      (refine norm_ (a' := ?_) ?_ ?_; rotate_left; focus (show Act.put _ (some 48) _ = _; simp only [Act.put, List.setIfInBounds_toArray, List.set_cons_zero, List.set_cons_succ]; rfl))
      refine one_ (i := 7) (N := some 49) #[true, true, true, true, true, true, true, true, false, false, false] rfl rfl (by kernel_rfl) (by decide) (fun K hK => ?_)
      (refine value_ (w1 := ?_) (v := ?_) (by rfl) rfl ?_ ?_; rotate_left 2; (focus (go_simp; constructor <;> rfl)))
      have nxa := nx1_.below (below_alloc (Below.refl _ w1) (.cells #[.int .i64 gq.f0, .slice E1 gq.f1.length e1, .slice E2 gq.f2.length e2, .slice E3 gq.f3.length e3] 28))
      refine hK.out _ _ ⟨(blk_cell nxa.O 3).trans rfl, trivial⟩ (fun hHeld => ?_)
      clear hK K hHeld2 nxa
      (refine norm_ (a' := ?_) ?_ ?_; rotate_left; focus (show Act.put _ (some 49) _ = _; simp only [Act.put, List.setIfInBounds_toArray, List.set_cons_zero, List.set_cons_succ]; rfl))
      refine one_ (i := 8) (N := some 50) #[true, true, true, true, true, true, true, true, true, false, false] rfl rfl (by kernel_rfl) (by decide) (fun K hK => ?_)
      have hord := nx1_.h
      refine Kd.S_append_step (kSp n) (w0 := w1) W.heap.size (by rfl) (.tmp 43) (.tmp 49) 26 28 (.agg #[.int .i64 0, .slice none 0 0, .slice none 0 0, .slice none 0 0]) 80 rfl Try.underlying26 (by rw [kSp_sz]; exact infoGe) (by rw [kSp_sz]; rfl) (by rw [kSp_sz]; decide) (by omega) v3 dn gq [.int .i64 gq.f0, .slice E1 gq.f1.length e1, .slice E2 gq.f2.length e2, .slice E3 gq.f3.length e3] (fun k => go_ < k) (fun k => Wb.heap.size ≤ k) rfl rfl ?aP ?aK ?aF ?aO ?aB ?aS ?aL ?_
      case aP => exact (kSp n).M_lower (by omega) ((kSp n).M_mono (fun k h => h) hM)
      case aK => exact fun k h => ⟨by omega, fun e => by have := hvlt k e.symm; omega⟩
      case aF => exact fun k h => by have := blk_lt nx1_.O; omega
      case aO => exact Kd.S_mono s3' (fun k h => ⟨h.1, by have := h.2; show ¬ _ ≤ k; omega⟩)
      case aB => exact Below.refl _ _
      case aS => have := blk_lt nx1_.S; omega
      case aL => have := HJ.out; omega
      intro v4 w2 ho2 hb2 hg2 hat2
      obtain ⟨TT, hTT⟩ : ∃ TT, TT = dn ++ [gq] := ⟨_, rfl⟩
      rw [← hTT] at ho2 HR2
      have HTT := Aside0.mk (show TT.length = j + 1 by have := HJ.out; rw [hTT, List.length_append]; simp; omega)
      clear hTT
      obtain ⟨A6, c6, e6⟩ := Kd.S_slice ho2
      subst e6
      have nx2 := nx1_.grownO hg2 (fun k e => by
        obtain ⟨h1, h2⟩ := (Kd.S_R (Kd.S_bound s3')).1 k e
        exact h1.1)
      clear nx1_ s3' hvlt hat2 hg2 hb2 hM
      refine hK.out _ _ ⟨(blk_cell nx2.O 3).trans rfl, trivial⟩ (fun hHeld2 => ?_)
      clear hK K hHeld
      (refine norm_ (a' := ?_) ?_ ?_; rotate_left; focus (show Act.put _ (some 50) _ = _; simp only [Act.put, List.setIfInBounds_toArray, List.set_cons_zero, List.set_cons_succ]; rfl))
      (refine pure_ (i := 9) (N := some 51) (v := ?_) (a' := ?_) #[true, true, true, true, true, true, true, true, true, true, false] rfl rfl (by kernel_rfl) (fun _ _ _ h => h) (Or.inl ⟨by rfl, ?_⟩) ?_ ?_; rotate_left; (focus (intro w'_; go_simp; with_reducible rfl)); rotate_left; (focus (simp only [Act.put, List.setIfInBounds_toArray, List.set_cons_zero, List.set_cons_succ]; rfl)))
      refine last_ (i := 10) (N := none) #[true, true, true, true, true, true, true, true, true, true, true] rfl rfl (by kernel_rfl) (by decide) (fun K hK => ?_)
      have hs0 : w2.cell? ⟨go_, 3, none⟩ = some v3 := (blk_cell nx2.O 3).trans rfl
      have hf0 := blk_frozen nx2.O 3
      refine skip_ (w1 := ?_) (by rfl) rfl ?_ ?_
      rotate_left
      · go_simp
        rfl
      refine hK.out _ _ ?_
      clear hK K
      refine done_ (by kernel_rfl) ?_
      have nx3 := nx2.set 3 (.slice A6 TT.length c6)
      have hgf := nx2.h
      have s4 := Kd.S_far (p := ⟨go_, 3, none⟩) ho2 (fun k h => by show k ≠ go_; omega) (.slice A6 TT.length c6)
      obtain ⟨v5, hv5⟩ : ∃ v, v = Value.slice A6 TT.length c6 := ⟨_, rfl⟩
      rw [← hv5] at nx3 s4 ⊢
      obtain ⟨W6, hW6⟩ : ∃ y, y = w2.setCell ⟨go_, 3, none⟩ v5 := ⟨_, rfl⟩
      rw [← hW6] at nx3 s4 ⊢
      have RX := Aside0.mk (show MX w0 W W6 gm l A c nq_ gs gn x An cn go_ #[.int .i64 k, .slice none 0 0, .slice none 0 0, v5] from by simpa using nx3)
      have HS := Aside0.mk s4
      clear hv5 hW6 nx2 nx3 s4 ho2 hs0 hf0 hHeld2 hord hgf hlv9
      go_wp2_with fail
      go_roundg kq
      case measure => omega
      case rel => exact ⟨j + 1, nq_, v5, TT, by omega, by go_num, HR2, RX, HS, HTT⟩
end Go.Proofs.Ytiiolhnpnlmkjaa.Tree
namespace Go.Proofs.Ytiiolhnpnlmkjaa.Tree
open Go.RowKit Go.Proofs.Ytiiolhnpnlmkjaa.PWkbPrints Go.Proofs.YtiiolhnpnlmkjaaW.PrintWords Go.Proofs.YtiiolhnpnlmkjaaW.PrintLast Go.Proofs.YtiiolhnpnlmkjaaW.PrintMore Go.Proofs.Ytiiolhnpnlmkjaa.Rdr
theorem St.drop {b X : List Int} {a : Nat} (h : St b a X) : b.drop a = X ++ b.drop (a + X.length) := by
  obtain ⟨t, h⟩ := h
  rw [← List.drop_drop, h, List.drop_left]
section
variable {b : List Int} (hb : Byt b)
include hb
theorem head_back {a : Nat} {le : Bool} {k : Int} (h : headR b a = .ok (le, k)) : a + 5 ≤ b.length ∧ St b a (bitB le ++ P32 (u32 k) le) ∧ 1 ≤ k ∧ k ≤ 7 := by
  unfold headR at h
  by_cases h1 : b.length < a + 1
  · rw [if_pos h1] at h; cases h
  rw [if_neg h1] at h
  by_cases h2 : 1 < numB b a 1 false % 256
  · rw [if_pos h2] at h; cases h
  rw [if_neg h2] at h
  by_cases h3 : b.length < a + 1 + 4
  · rw [if_pos h3] at h; cases h
  rw [if_neg h3] at h
  obtain ⟨s1, r1, r2⟩ := w8_of (a := a) hb (by omega)
  obtain ⟨le', hle'⟩ : ∃ le', le' = decide (numB b a 1 false % 256 = 1) := ⟨_, rfl⟩
  obtain ⟨s2, r3, r4⟩ := w32_of (a := a + 1) hb (by omega) le'
  rw [← hle'] at h
  by_cases h4 : numB b (a + 1) 4 le' % 4294967296 < 1 ∨ 7 < numB b (a + 1) 4 le' % 4294967296
  · rw [if_pos h4] at h; cases h
  rw [if_neg h4] at h
  injection h with h
  injection h with e1 e2
  subst e1
  have e3 : numB b (a + 1) 4 le' = k := by omega
  rw [e3] at s2
  refine ⟨by omega, ?_, by omega, by omega⟩
  have hu : u32 k = k := by unfold u32; rw [IntKind.wrap_u32]; omega
  rw [hu]
  refine St.join ?_ s2
  have e4 : bitB le' = [numB b a 1 false] := by
    unfold bitB
    rw [hle']
    by_cases c : numB b a 1 false % 256 = 1
    · rw [show decide (numB b a 1 false % 256 = 1) = true from decide_eq_true c, if_pos rfl]
      congr 1
      omega
    · rw [show decide (numB b a 1 false % 256 = 1) = false from decide_eq_false c, if_neg (by decide)]
      congr 1
      omega
  rw [e4]
  exact s1
theorem count_back {p m least : Nat} {le : Bool} (h : countR b p le least = .ok m) : p + 4 + m * least ≤ b.length ∧ m < 4294967296 ∧ St b p (P32 (u32 m) le) := by
  unfold countR at h
  by_cases h1 : b.length < p + 4
  · rw [if_pos h1] at h; cases h
  rw [if_neg h1] at h
  by_cases h2 : b.length < p + 4 + (numB b p 4 le % 4294967296).toNat * least
  · rw [if_pos h2] at h; cases h
  rw [if_neg h2] at h
  injection h with h
  obtain ⟨s1, r1, r2⟩ := w32_of (a := p) hb (by omega) le
  rw [h] at h2
  have e : numB b p 4 le = (m : Int) := by omega
  rw [e] at s1
  have hu : u32 (m : Int) = m := by unfold u32; rw [IntKind.wrap_u32]; omega
  rw [hu]
  exact ⟨by omega, by omega, s1⟩
theorem rg_at {p : Nat} {le : Bool} (h : p + 16 ≤ b.length) : Rg ⟨numB b p 8 le, numB b (p + 8) 8 le⟩ ∧ St b p (ptB le ⟨numB b p 8 le, numB b (p + 8) 8 le⟩) := by
  obtain ⟨s1, r1⟩ := w64_of (a := p) hb (by omega) le
  obtain ⟨s2, r2⟩ := w64_of (a := p + 8) hb (by omega) le
  refine ⟨⟨r1, r2⟩, St.join s1 ?_⟩
  rw [P64_len]
  exact s2
theorem place_back {p : Nat} {le : Bool} {l : List Pt} (h : placeR b p le = .ok l) : p + 16 ≤ b.length ∧ l.length ≤ 1 ∧ finL l = true ∧ (∀ q ∈ l, Rg q) ∧ (l ≠ [] → St b p (ptsB le l)) := by
  unfold placeR at h
  by_cases h1 : b.length < p + 8
  · rw [if_pos h1] at h; cases h
  rw [if_neg h1] at h
  by_cases h2 : b.length < p + 8 + 8
  · rw [if_pos h2] at h; cases h
  rw [if_neg h2] at h
  have h16 : p + 16 ≤ b.length := by omega
  obtain ⟨hr, hs⟩ := rg_at hb (le := le) h16
  generalize numB b p 8 le = x at *
  generalize numB b (p + 8) 8 le = y at *
  by_cases h3 : classOf x = 4 ∧ classOf y = 4
  · rw [if_pos h3] at h
    injection h with h
    subst h
    exact ⟨h16, by simp, rfl, by simp, fun h => absurd rfl h⟩
  rw [if_neg h3] at h
  by_cases h4 : 3 ≤ classOf x
  · rw [if_pos h4] at h; cases h
  rw [if_neg h4] at h
  by_cases h5 : 3 ≤ classOf y
  · rw [if_pos h5] at h; cases h
  rw [if_neg h5] at h
  injection h with h
  subst h
  refine ⟨h16, Nat.le_refl _, ?_, ?_, fun _ => ?_⟩
  · unfold finL finLC finC
    rw [List.all_cons, List.all_nil]
    simp only [Bool.and_true, Bool.and_eq_true, decide_eq_true_iff]
    exact ⟨le2 h4, le2 h5⟩
  · intro q hq
    rw [List.mem_singleton.1 hq]
    exact hr
  · rw [ptsB_cons, ptsB_nil, List.append_nil]
    exact hs
omit hb in
theorem none_bad {c : List Int} {a : Nat} {le : Bool} : ∀ (m i : Nat), badFrom c a le m i = none → ∀ j, i ≤ j → j < i + m → classOf (numB c (a + 16 * j) 8 le) ≤ 2 ∧ classOf (numB c (a + 16 * j + 8) 8 le) ≤ 2 := by
  intro m
  induction m with
  | zero => intro i _ j h1 h2; omega
  | succ m ih =>
    intro i h j h1 h2
    rw [badFrom] at h
    by_cases c1 : 3 ≤ classOf (numB c (a + 16 * i) 8 le)
    · rw [if_pos c1] at h; cases h
    rw [if_neg c1] at h
    by_cases c2 : 3 ≤ classOf (numB c (a + 16 * i + 8) 8 le)
    · rw [if_pos c2] at h; cases h
    rw [if_neg c2] at h
    by_cases e : j = i
    · subst e
      exact ⟨le2 c1, le2 c2⟩
    · exact ih (i + 1) h j (by omega) (by omega)
omit hb in
theorem ptsB_app (le : Bool) (l m : List Pt) : ptsB le (l ++ m) = ptsB le l ++ ptsB le m := by unfold ptsB; rw [List.flatMap_append]
theorem pts_st {p : Nat} {le : Bool} : ∀ (m : Nat), p + 16 * m ≤ b.length → St b p (ptsB le (ptsAt b p le m)) := by
  intro m
  induction m with
  | zero => intro _; exact ⟨_, rfl⟩
  | succ m ih =>
    intro h
    have e : ptsAt b p le (m + 1) = ptsAt b p le m ++ [ptAt b p le m] := by unfold ptsAt; rw [List.range_succ, List.map_append]; rfl
    rw [e, ptsB_app]
    refine St.join (ih (by omega)) ?_
    rw [ptsB_len, ptsAt_len, ptsB_cons, ptsB_nil, List.append_nil]
    exact (rg_at hb (by omega)).2
theorem points_back {p m : Nat} {le : Bool} {l : List Pt} (h : pointsR b p le m = .ok l) (hp : p + 16 * m ≤ b.length) : l.length = m ∧ finL l = true ∧ (∀ q ∈ l, Rg q) ∧ St b p (ptsB le l) := by
  have hl := pointsR_len h
  unfold pointsR at h
  rcases hn : badFrom b p le m 0 with _ | x
  · rw [hn] at h
    dsimp only at h
    injection h with h
    have hcl := none_bad m 0 hn
    subst h
    refine ⟨hl, ?_, ?_, pts_st hb m hp⟩
    · unfold finL finLC finC
      rw [List.all_eq_true]
      intro q hq
      obtain ⟨i, hi, rfl⟩ := List.mem_map.1 hq
      have := hcl i (by omega) (by have := List.mem_range.1 hi; omega)
      simp only [Bool.and_eq_true, ptAt]
      exact ⟨decide_eq_true this.1, decide_eq_true this.2⟩
    · intro q hq
      obtain ⟨i, hi, rfl⟩ := List.mem_map.1 hq
      have hi' := List.mem_range.1 hi
      exact (rg_at hb (by omega)).1
  · rw [hn] at h
    cases h
theorem ring_back {p : Nat} {le : Bool} {r : List Pt} (h : ringR b p le = .ok r) : p + (4 + 16 * r.length) ≤ b.length ∧ r ≠ [] ∧ finL r = true ∧ (∀ q ∈ r, Rg q) ∧ St b p (ringB le r) := by
  unfold ringR at h
  by_cases h1 : b.length < p + 4
  · rw [if_pos h1] at h; cases h
  rw [if_neg h1] at h
  by_cases h2 : numB b p 4 le % 4294967296 = 0
  · rw [if_pos h2] at h; cases h
  rw [if_neg h2] at h
  by_cases h3 : b.length < p + 4 + 16 * (numB b p 4 le % 4294967296).toNat
  · rw [if_pos h3] at h; cases h
  rw [if_neg h3] at h
  obtain ⟨s1, r1, r2⟩ := w32_of (a := p) hb (by omega) le
  obtain ⟨m, hm⟩ : ∃ m, m = (numB b p 4 le % 4294967296).toNat := ⟨_, rfl⟩
  rw [← hm] at h h3
  have e : numB b p 4 le = (m : Int) := by omega
  obtain ⟨q1, q2, q3, q4⟩ := points_back hb h (by omega)
  rw [e, ← q1] at s1
  have hu : u32 (r.length : Int) = r.length := by unfold u32; rw [IntKind.wrap_u32]; omega
  refine ⟨by omega, fun h0 => ?_, q2, q3, ?_⟩
  · subst h0
    simp at q1
    omega
  · unfold ringB
    rw [hu]
    refine St.join s1 ?_
    rw [P32_len]
    exact q4
theorem rings_back {le : Bool} : ∀ (m p : Nat) (l : List (List Pt)) (p' : Nat), ringsR b le m p = .ok (l, p') → p ≤ b.length →
    l.length = m ∧ p' ≤ b.length ∧ p' = p + (ringsB le l).length ∧ (∀ r ∈ l, r ≠ [] ∧ finL r = true ∧ ∀ q ∈ r, Rg q) ∧ St b p (ringsB le l) := by
  intro m
  induction m with
  | zero =>
    intro p l p' h hp
    rw [ringsR] at h
    injection h with h
    injection h with h1 h2
    subst h1 h2
    exact ⟨rfl, hp, rfl, by simp, ⟨_, rfl⟩⟩
  | succ m ih =>
    intro p l p' h hp
    rw [ringsR] at h
    rcases h1 : ringR b p le with e | r
    · rw [h1] at h; cases h
    · rw [h1] at h
      dsimp only at h
      rcases h2 : ringsR b le m (p + 4 + 16 * r.length) with e | ⟨l2, p2⟩
      · rw [h2] at h; cases h
      · rw [h2] at h
        injection h with h
        injection h with h3 h4
        dsimp only at h3 h4
        subst h3 h4
        obtain ⟨q1, q2, q3, q4, q5⟩ := ring_back hb h1
        obtain ⟨t1, t2, t3, t4, t5⟩ := ih _ _ _ h2 (by omega)
        refine ⟨by rw [List.length_cons, t1], t2, ?_, ?_, ?_⟩
        · rw [ringsB_cons, List.length_append, ringB_len]
          omega
        · intro r' hr'
          rcases List.mem_cons.1 hr' with rfl | hr'
          · exact ⟨q2, q3, q4⟩
          · exact t4 r' hr'
        · rw [ringsB_cons]
          refine St.join q5 ?_
          rw [ringB_len, ← Nat.add_assoc]
          exact t5
end
def putAt (b : List Int) (p : Nat) (v : List Int) : List Int := b.take p ++ (v ++ b.drop (p + v.length))
mutual
/-- What the finder makes of bytes at a place, led by a tree. -/
def walkG : Ge → List Int × Nat → List Int × Nat
  | ⟨k, l, r, ps⟩, s =>
    if k = 1 then (if l.length = 0 then putAt s.1 (s.2 + 5) (ptB (decide (s.1.getD s.2 0 = 1)) nanP) else s.1, s.2 + 5 + 16)
    else if k = 2 then (s.1, s.2 + 5 + (4 + 16 * l.length))
    else if k = 3 then (s.1, s.2 + 5 + (4 + (4 * r.length + 16 * r.flatten.length)))
    else walkL ps (s.1, s.2 + 5 + 4)
def walkL : List Ge → List Int × Nat → List Int × Nat
  | [], s => s
  | p :: ps, s => walkL ps (walkG p s)
end
theorem walkG_eq (g : Ge) (s : List Int × Nat) : walkG g s = if g.f0 = 1 then (if g.f1.length = 0 then putAt s.1 (s.2 + 5) (ptB (decide (s.1.getD s.2 0 = 1)) nanP) else s.1, s.2 + 5 + 16)
    else if g.f0 = 2 then (s.1, s.2 + 5 + (4 + 16 * g.f1.length))
    else if g.f0 = 3 then (s.1, s.2 + 5 + (4 + (4 * g.f2.length + 16 * g.f2.flatten.length)))
    else walkL g.f3 (s.1, s.2 + 5 + 4) := by
  cases g; simp only [walkG]
theorem walkL_snoc (l : List Ge) (p : Ge) : ∀ s, walkL (l ++ [p]) s = walkG p (walkL l s) := by
  induction l with
  | nil => intro s; rw [List.nil_append, walkL, walkL, walkL]
  | cons q l ih => intro s; rw [List.cons_append, walkL, walkL, ih]
structure Bk (b : List Int) (deep : Int) (a : Nat) (lvl o : Int) (g : Ge) (a' : Nat) (os' : List Bool) : Prop where
  e : a' ≤ b.length
  G : AllG g lvl o
  d : ∀ x ∈ nodes g lvl o, x.f1 ≤ deep
  o : os'.length = cntG g
  u : g.bulk + a ≤ a'
  k : ∀ os n, ords os n (cntG g) = os' → a + (geoB os g n).length = a' ∧ ∀ pre : List Int, pre.length = a → walkG g (pre ++ b.drop a, a) = ((pre ++ geoB os g n) ++ b.drop a', a')
structure BkL (b : List Int) (deep : Int) (a : Nat) (lvl o : Int) (l : List Ge) (a' : Nat) (os' : List Bool) : Prop where
  e : a' ≤ b.length
  G : ∀ p ∈ l, AllG p lvl o
  d : ∀ p ∈ l, ∀ x ∈ nodes p lvl o, x.f1 ≤ deep
  o : os'.length = cntL l
  u : bulks l + a ≤ a'
  k : ∀ os n, ords os n (cntL l) = os' → a + (partsB os l n).length = a' ∧ ∀ pre : List Int, pre.length = a → walkL l (pre ++ b.drop a, a) = ((pre ++ partsB os l n) ++ b.drop a', a')
theorem parts_back {b : List Int} {deep lvl o : Int} (f : Nat → Except (Int × Int) (Ge × Nat × List Bool)) (hf : ∀ a g a' os', f a = .ok (g, a', os') → a ≤ b.length → Bk b deep a lvl o g a' os') :
    ∀ (m a : Nat) (l : List Ge) (a' : Nat) (os' : List Bool), partsR f m a = .ok (l, a', os') → a ≤ b.length → l.length = m ∧ BkL b deep a lvl o l a' os' := by
  intro m
  induction m with
  | zero =>
    intro a l a' os' h ha
    rw [partsR] at h
    injection h with h
    injection h with h1 h
    injection h with h2 h3
    subst h1 h2 h3
    refine ⟨rfl, ha, by simp, by simp, by simp [cntL], by simp [bulks], fun os n _ => ⟨by simp [partsB], fun pre hp => ?_⟩⟩
    rw [walkL, partsB, List.append_nil]
  | succ m ih =>
    intro a l a' os' h ha
    rw [partsR] at h
    rcases h1 : f a with e | ⟨g, a2, o2⟩
    · rw [h1] at h; cases h
    · rw [h1] at h
      dsimp only at h
      rcases h2 : partsR f m a2 with e | ⟨l2, a3, o3⟩
      · rw [h2] at h; cases h
      · rw [h2] at h
        injection h with h
        injection h with h3 h
        injection h with h4 h5
        dsimp only at h3 h4 h5
        subst h3 h4 h5
        have k1 := hf _ _ _ _ h1 ha
        obtain ⟨e1, k2⟩ := ih _ _ _ _ h2 k1.e
        refine ⟨by rw [List.length_cons, e1], k2.e, ?_, ?_, ?_, ?_, ?_⟩
        · intro p hp
          rcases List.mem_cons.1 hp with rfl | hp
          · exact k1.G
          · exact k2.G p hp
        · intro p hp
          rcases List.mem_cons.1 hp with rfl | hp
          · exact k1.d
          · exact k2.d p hp
        · rw [List.length_append, k1.o, k2.o, cntL]
        · have := k1.u
          have := k2.u
          rw [bulks]
          omega
        · intro os n ho
          rw [cntL, ords_add] at ho
          obtain ⟨o1, o2⟩ := List.append_inj ho (by rw [ords_len, k1.o])
          obtain ⟨j1, j2⟩ := k1.k os n o1
          obtain ⟨j3, j4⟩ := k2.k os (n + cntG g) o2
          refine ⟨by rw [partsB, List.length_append]; omega, fun pre hp => ?_⟩
          rw [walkL, j2 pre hp, j4 (pre ++ geoB os g n) (by rw [List.length_append, hp, j1]), partsB]
          simp only [List.append_assoc]
theorem bit_at {b : List Int} {a : Nat} {le : Bool} {Y : List Int} {pre : List Int} (hp : pre.length = a) : decide (((pre ++ (bitB le ++ Y)) : List Int).getD a 0 = 1) = le := by
  subst hp
  have : (pre ++ (bitB le ++ Y)).getD pre.length 0 = if le = true then 1 else 0 := by
    rw [List.getD_eq_getElem?_getD, List.getElem?_append_right (Nat.le_refl _), Nat.sub_self]
    rfl
  rw [this]
  cases le <;> rfl
theorem putAt_at {pre H v w t : List Int} {a : Nat} (hp : pre.length = a) (hv : v.length = w.length) : putAt (pre ++ (H ++ (v ++ t))) (a + H.length) w = pre ++ (H ++ (w ++ t)) := by
  subst hp
  unfold putAt
  have e1 : (pre ++ (H ++ (v ++ t))).take (pre.length + H.length) = pre ++ H := by
    rw [← List.append_assoc, ← List.length_append, List.take_left]
  have e2 : (pre ++ (H ++ (v ++ t))).drop (pre.length + H.length + w.length) = t := by
    rw [← hv, ← List.append_assoc, ← List.append_assoc, ← List.length_append, ← List.length_append, List.drop_left]
  rw [e1, e2, List.append_assoc]
theorem gd_mk {g : Ge} {lvl o : Int} (h1 : shapedB ⟨g, lvl, o⟩ = true) (h2 : finL (own g) = true) (h3 : ∀ q ∈ own g, Rg q) (h4 : ∀ p ∈ g.f3, AllG p (lvl + 1) g.f0) : AllG g lvl o := by
  intro x hx
  rw [nodes_eq] at hx
  rcases List.mem_cons.1 hx with rfl | hx
  · exact ⟨h1, h2, h3⟩
  · rw [nodesL_flat] at hx
    obtain ⟨l, hl, hx⟩ := List.mem_flatten.1 hx
    obtain ⟨p, hp, rfl⟩ := List.mem_map.1 hl
    exact h4 p hp x hx
theorem deep_mk {g : Ge} {lvl o deep : Int} (h1 : lvl ≤ deep) (h4 : ∀ p ∈ g.f3, ∀ x ∈ nodes p (lvl + 1) g.f0, x.f1 ≤ deep) : ∀ x ∈ nodes g lvl o, x.f1 ≤ deep := by
  intro x hx
  rw [nodes_eq] at hx
  rcases List.mem_cons.1 hx with rfl | hx
  · exact h1
  · rw [nodesL_flat] at hx
    obtain ⟨l, hl, hx⟩ := List.mem_flatten.1 hx
    obtain ⟨p, hp, rfl⟩ := List.mem_map.1 hl
    exact h4 p hp x hx
theorem shaped_mk {k o lvl : Int} {l : List Pt} {r : List (List Pt)} {ps : List Ge} (hk : 1 ≤ k ∧ k ≤ 7) (hf : fitsB k o = true) (h1 : 2 < k → l = []) (h2 : k ≠ 3 → r = []) (h3 : k < 4 → ps = []) (h4 : ∀ x ∈ r, x ≠ []) (h5 : k = 1 → l.length ≤ 1) : shapedB ⟨⟨k, l, r, ps⟩, lvl, o⟩ = true := by
  unfold shapedB kindB lacksB
  simp only [Bool.and_eq_true, Bool.or_eq_true, decide_eq_true_iff, Bool.not_eq_true', Bool.or_eq_false_iff, Bool.and_eq_false_iff, decide_eq_false_iff_not, List.all_eq_true]
  refine ⟨hk, hf, ⟨?_, ?_, ?_⟩, ?_, ?_⟩
  · by_cases c : 2 < k
    · rw [h1 c]; simp
    · exact .inr c
  · by_cases c : k = 3
    · exact .inr (by simpa using c)
    · rw [h2 c]; simp
  · by_cases c : k < 4
    · rw [h3 c]; simp
    · exact .inr c
  · intro x hx
    have := h4 x hx
    cases x
    · exact absurd rfl this
    · rfl
  · by_cases c : k = 1
    · exact .inr (h5 c)
    · exact .inl c
theorem back_of {b : List Int} (hb : Byt b) (deep : Int) (fuel : Nat) : ∀ (a : Nat) (lvl o : Int) (g : Ge) (a' : Nat) (os' : List Bool), geomR b deep fuel a lvl o = .ok (g, a', os') → a ≤ b.length → HomeOk o → Bk b deep a lvl o g a' os' := by
  induction fuel with
  | zero => intro a lvl o g a' os' h; cases h
  | succ fu ih =>
    intro a lvl o g a' os' h ha ho
    rw [geomR_eq] at h
    rcases hh : headR b a with e | ⟨le, k⟩
    · rw [hh] at h; cases h
    rw [hh] at h
    dsimp only at h
    obtain ⟨h5, hst, hk⟩ := head_back hb hh
    rw [home_fits hk ho] at h
    by_cases hf : fitsB k o = false
    · rw [if_pos hf] at h; cases h
    rw [if_neg hf] at h
    rw [Bool.not_eq_false] at hf
    by_cases hd : deep < lvl
    · rw [if_pos hd] at h; cases h
    rw [if_neg hd, show a + 1 + 4 = a + 5 from rfl] at h
    have hl5 : (bitB le ++ P32 (u32 k) le).length = 5 := by rw [List.length_append, P32_len]; rfl
    have hdr := hst.drop
    rw [hl5] at hdr
    unfold bodyR at h
    by_cases k1 : k = 1
    · rw [if_pos k1] at h
      rcases hp : placeR b (a + 5) le with e | l
      · rw [hp] at h; cases h
      rw [hp] at h
      injection h with h
      injection h with e1 h
      injection h with e2 e3
      subst e1 e2 e3
      obtain ⟨p1, p2, p3, p4, p5⟩ := place_back hb hp
      have hcn : cntG (⟨k, l, [], []⟩ : Ge) = 1 := by rw [cntG_eq, if_pos (.inl k1)]
      refine ⟨p1, gd_mk (shaped_mk hk hf (by omega) (fun _ => rfl) (fun _ => rfl) (by simp) (fun _ => p2)) (by simpa [own] using p3) (by simpa [own] using p4) (by simp), deep_mk (by omega) (by simp), by rw [hcn]; rfl, by rw [Ge.bulk_eq]; simp [bulks]; omega, fun os n ho => ?_⟩
      rw [hcn, ords_one] at ho
      injection ho with ho
      have hX : geoB os (⟨k, l, [], []⟩ : Ge) n = (bitB le ++ P32 (u32 k) le) ++ (if l.length = 0 then ptsB le [nanP] else ptsB le l) := by
        rw [geoB_eq, ho, if_pos k1, List.append_assoc]
      have hl16 : (if l.length = 0 then ptsB le [nanP] else ptsB le l).length = 16 := by
        split
        · rw [ptsB_len]; rfl
        · rw [ptsB_len]; omega
      refine ⟨by rw [hX, List.length_append, hl5, hl16], fun pre hpre => ?_⟩
      rw [walkG_eq, hX, if_pos k1]
      dsimp only
      rw [hdr]
      by_cases hl0 : l.length = 0
      · rw [if_pos hl0, if_pos hl0]
        have h16 : b.drop (a + 5) = (b.drop (a + 5)).take 16 ++ b.drop (a + 5 + 16) := (List.take_append_drop 16 (b.drop (a + 5))).symm.trans (by rw [List.drop_drop])
        have hbit : decide ((pre ++ (bitB le ++ P32 (u32 k) le ++ b.drop (a + 5))).getD a 0 = 1) = le := by
          rw [List.append_assoc]
          exact bit_at (b := b) hpre
        rw [hbit]
        conv => lhs; rw [h16]
        have hpa := putAt_at (pre := pre) (H := bitB le ++ P32 (u32 k) le) (v := (b.drop (a + 5)).take 16) (w := ptB le nanP) (t := b.drop (a + 5 + 16)) hpre (by rw [ptB_len, List.length_take, List.length_drop]; omega)
        rw [hl5] at hpa
        rw [hpa, ptsB_cons, ptsB_nil, List.append_nil]
        simp only [List.append_assoc]
      · rw [if_neg hl0, if_neg hl0]
        have h9 := (p5 (fun e => hl0 (by rw [e]; rfl))).drop
        rw [if_neg hl0] at hl16
        rw [hl16] at h9
        rw [h9]
        simp only [List.append_assoc]
    rw [if_neg k1] at h
    by_cases k2 : k = 2
    · rw [if_pos k2] at h
      rcases hc : countR b (a + 5) le 16 with e | m
      · rw [hc] at h; cases h
      rw [hc] at h
      dsimp only at h
      obtain ⟨c1, c2, c3⟩ := count_back hb hc
      rcases hp : pointsR b (a + 5 + 4) le m with e | l
      · rw [hp] at h; cases h
      rw [hp] at h
      injection h with h
      injection h with e1 h
      injection h with e2 e3
      subst e1 e2 e3
      obtain ⟨p2, p3, p4, p5⟩ := points_back hb hp (by omega)
      have hcn : cntG (⟨k, l, [], []⟩ : Ge) = 1 := by rw [cntG_eq, if_pos (.inr (.inl k2))]
      refine ⟨by omega, gd_mk (shaped_mk hk hf (by omega) (fun _ => rfl) (fun _ => rfl) (by simp) (fun h => absurd h k1)) (by simpa [own] using p3) (by simpa [own] using p4) (by simp), deep_mk (by omega) (by simp), by rw [hcn]; rfl, by rw [Ge.bulk_eq]; simp [bulks]; omega, fun os n ho => ?_⟩
      rw [hcn, ords_one] at ho
      injection ho with ho
      have hX : geoB os (⟨k, l, [], []⟩ : Ge) n = (bitB le ++ P32 (u32 k) le) ++ (P32 (u32 l.length) le ++ ptsB le l) := by
        rw [geoB_eq, ho, if_neg k1, if_pos k2, List.append_assoc]
      rw [p2] at hX
      refine ⟨by rw [hX, List.length_append, hl5, List.length_append, P32_len, ptsB_len, p2]; omega, fun pre hpre => ?_⟩
      rw [walkG_eq, hX, if_neg k1, if_pos k2]
      dsimp only
      have h9 := c3.drop
      rw [P32_len] at h9
      have h10 := p5.drop
      rw [ptsB_len, p2] at h10
      rw [hdr, h9, h10, p2, show a + 5 + (4 + 16 * m) = a + 5 + 4 + 16 * m from by omega]
      simp only [List.append_assoc]
    rw [if_neg k2] at h
    by_cases k3 : k = 3
    · rw [if_pos k3] at h
      rcases hc : countR b (a + 5) le 20 with e | m
      · rw [hc] at h; cases h
      rw [hc] at h
      dsimp only at h
      obtain ⟨c1, c2, c3⟩ := count_back hb hc
      rcases hp : ringsR b le m (a + 5 + 4) with e | ⟨l, p'⟩
      · rw [hp] at h; cases h
      rw [hp] at h
      injection h with h
      injection h with e1 h
      injection h with e2 e3
      dsimp only at e1 e2 e3
      subst e1 e2 e3
      obtain ⟨p2, p3, p4, p5, p6⟩ := rings_back hb _ _ _ _ hp (by omega)
      have hcn : cntG (⟨k, [], l, []⟩ : Ge) = 1 := by rw [cntG_eq, if_pos (.inr (.inr k3))]
      have hrl := ringsB_len le l
      refine ⟨p3, gd_mk (shaped_mk hk hf (fun _ => rfl) (fun h => absurd k3 h) (fun _ => rfl) (fun r hr => (p5 r hr).1) (fun h => absurd h k1)) ?_ ?_ (by simp), deep_mk (by omega) (by simp), by rw [hcn]; rfl, by rw [Ge.bulk_eq]; simp only [bulks, List.length_nil]; omega, fun os n ho => ?_⟩
      · rw [finL_own, Bool.and_eq_true, List.all_eq_true]
        exact ⟨rfl, fun r hr => (p5 r hr).2.1⟩
      · intro q hq
        unfold own at hq
        rw [List.nil_append] at hq
        obtain ⟨r, hr, hq⟩ := List.mem_flatten.1 hq
        exact (p5 r hr).2.2 q hq
      rw [hcn, ords_one] at ho
      injection ho with ho
      have hX : geoB os (⟨k, [], l, []⟩ : Ge) n = (bitB le ++ P32 (u32 k) le) ++ (P32 (u32 l.length) le ++ ringsB le l) := by
        rw [geoB_eq, ho, if_neg k1, if_neg k2, if_pos k3, List.append_assoc]
      rw [p2] at hX
      refine ⟨by rw [hX, List.length_append, hl5, List.length_append, P32_len]; omega, fun pre hpre => ?_⟩
      rw [walkG_eq, hX, if_neg k1, if_neg k2, if_pos k3]
      dsimp only
      have h9 := c3.drop
      rw [P32_len] at h9
      have h10 := p6.drop
      rw [← p4] at h10
      rw [hdr, h9, h10, ← hrl, show a + 5 + (4 + (ringsB le l).length) = p' from by omega]
      simp only [List.append_assoc]
    rw [if_neg k3] at h
    rcases hc : countR b (a + 5) le (if k = 4 then 21 else 9) with e | m
    · rw [hc] at h; cases h
    rw [hc] at h
    dsimp only at h
    obtain ⟨c1, c2, c3⟩ := count_back hb hc
    rcases hp : partsR (fun q => geomR b deep fu q (lvl + 1) k) m (a + 5 + 4) with e | ⟨l, p', o'⟩
    · rw [hp] at h; cases h
    rw [hp] at h
    injection h with h
    injection h with e1 h
    injection h with e2 e3
    dsimp only at e1 e2 e3
    subst e1 e2 e3
    obtain ⟨p2, p3⟩ := parts_back (fun q => geomR b deep fu q (lvl + 1) k) (fun a g a' os' h ha => ih a (lvl + 1) k g a' os' h ha (.inr (by omega))) _ _ _ _ _ hp (by omega)
    have hcn : cntG (⟨k, [], [], l⟩ : Ge) = 1 + cntL l := by rw [cntG_eq, if_neg (by show ¬ (k = 1 ∨ k = 2 ∨ k = 3); omega)]
    have hu := p3.u
    refine ⟨p3.e, gd_mk (shaped_mk hk hf (fun _ => rfl) (fun _ => rfl) (fun h => by omega) (by simp) (fun h => absurd h k1)) rfl (by simp [own]) p3.G, deep_mk (by omega) p3.d, by rw [hcn, List.length_cons, p3.o]; omega, by rw [Ge.bulk_eq]; simp; omega, fun os n ho => ?_⟩
    rw [hcn, ords_add, ords_one] at ho
    injection ho with ho ho2
    have hX : geoB os (⟨k, [], [], l⟩ : Ge) n = (bitB le ++ P32 (u32 k) le) ++ (P32 (u32 l.length) le ++ partsB os l (n + 1)) := by
      rw [geoB_eq, ho, if_neg k1, if_neg k2, if_neg k3, List.append_assoc]
    rw [p2] at hX
    obtain ⟨j1, j2⟩ := p3.k os (n + 1) ho2
    refine ⟨by rw [hX, List.length_append, hl5, List.length_append, P32_len]; omega, fun pre hpre => ?_⟩
    rw [walkG_eq, hX, if_neg k1, if_neg k2, if_neg k3]
    dsimp only
    have h9 := c3.drop
    rw [P32_len] at h9
    have j3 := j2 (pre ++ ((bitB le ++ P32 (u32 k) le) ++ P32 (u32 m) le)) (by rw [List.length_append, List.length_append, hl5, P32_len]; omega)
    have e9 : pre ++ b.drop a = (pre ++ ((bitB le ++ P32 (u32 k) le) ++ P32 (u32 m) le)) ++ b.drop (a + 5 + 4) := by
      rw [hdr, h9]
      simp only [List.append_assoc]
    rw [e9, j3]
    simp only [List.append_assoc]
/-- An error's place lies between two. -/
def Gone {α : Type} (r : Except (Int × Int) α) (a e : Nat) : Prop := ∀ x, r = .error x → (a : Int) ≤ x.1 ∧ x.1 ≤ e
theorem Gone.map {α β : Type} {r : Except (Int × Int) α} {a e : Nat} (h : Gone r a e) (f : α → β) : Gone (r.map f) a e := by
  intro x hx
  cases r with
  | error y => injection hx with hx; exact h x (by rw [hx])
  | ok v => cases hx
theorem Gone.mono {α : Type} {r : Except (Int × Int) α} {a a' e : Nat} (h : Gone r a' e) (ha : a ≤ a') : Gone r a e := by
  intro x hx
  have := h x hx
  omega
end Go.Proofs.Ytiiolhnpnlmkjaa.Tree
namespace Go.Proofs.Ytiiolhnpnlmkjaa.Tree
open Go.RowKit Go.Proofs.Ytiiolhnpnlmkjaa.PWkbPrints Go.Proofs.YtiiolhnpnlmkjaaW.PrintWords Go.Proofs.YtiiolhnpnlmkjaaW.PrintLast Go.Proofs.YtiiolhnpnlmkjaaW.PrintMore Go.Proofs.Ytiiolhnpnlmkjaa.PMk
attribute [local go_sem] Oper.semAt_some max2_int max_two min2_int min_two
theorem fin_bits (q : Nat) : (q &&& 4094) &&& 2047 ≠ 2047 := by
  rw [Nat.and_assoc, show 4094 &&& 2047 = 2046 from by decide]
  have : q &&& 2046 ≤ 2046 := Nat.and_le_right
  omega
theorem expo_nat (n : Nat) (h : n < 18446744073709551616) : expo (n : Int) = ((n / 4503599627370496 &&& 2047 : Nat) : Int) := by
  unfold expo
  rw [show ((n : Int) / 4503599627370496) = ((n / 4503599627370496 : Nat) : Int) from by omega]
  have h1 := u64_and_nat (n / 4503599627370496) 2047 (by omega) (by omega)
  rw [show ((2047 : Nat) : Int) = 2047 from rfl] at h1
  rw [h1]
  have h2 : n / 4503599627370496 &&& 2047 ≤ 2047 := Nat.and_le_right
  unfold wrap64
  omega
theorem finM_ok (b : Int) (h0 : 0 ≤ b) (h1 : b < 18446744073709551616) : (0 ≤ finM b ∧ finM b < 18446744073709551616) ∧ classOf (finM b) ≤ 2 := by
  obtain ⟨n, rfl⟩ := Int.eq_ofNat_of_zero_le h0
  have hn : n < 18446744073709551616 := by omega
  have hand := u64_and_nat (n / 4503599627370496) 2047 (by omega) (by omega)
  rw [show ((2047 : Nat) : Int) = 2047 from rfl] at hand
  have hdiv : ((n : Int) / 4503599627370496) = ((n / 4503599627370496 : Nat) : Int) := by omega
  have key : ∀ m : Nat, m < 18446744073709551616 → (m / 4503599627370496 &&& 2047) ≠ 2047 → classOf (m : Int) ≤ 2 := by
    intro m hm hne
    have h2 := finC_iff (m : Int)
    rw [expo_nat m hm] at h2
    have h3 : decide (((m / 4503599627370496 &&& 2047 : Nat) : Int) ≠ 2047) = true := decide_eq_true (by omega)
    rw [h3] at h2
    unfold finC at h2
    exact of_decide_eq_true h2
  unfold finM
  rw [hdiv, hand]
  by_cases c : ((n / 4503599627370496 &&& 2047 : Nat) : Int) = 2047
  · rw [if_pos c]
    have h2 := u64_andNot_nat n 4503599627370496 hn (by omega)
    rw [show ((4503599627370496 : Nat) : Int) = 4503599627370496 from rfl] at h2
    rw [h2]
    have h3 : n &&& (18446744073709551615 - 4503599627370496) < 2 ^ 64 := Nat.and_lt_two_pow _ (by decide)
    have h4 : (n &&& (18446744073709551615 - 4503599627370496)) / 4503599627370496 = (n / 4503599627370496) &&& 4094 := by
      have h5 := Nat.shiftRight_and_distrib (a := n) (b := 18446744073709551615 - 4503599627370496) (i := 52)
      rw [Nat.shiftRight_eq_div_pow, Nat.shiftRight_eq_div_pow, Nat.shiftRight_eq_div_pow] at h5
      exact h5
    refine ⟨⟨by omega, by omega⟩, key _ (by simpa using h3) ?_⟩
    rw [h4]
    exact fin_bits _
  · rw [if_neg c]
    exact ⟨⟨by omega, h1⟩, key n hn (fun e => c (by rw [e]; rfl))⟩
def Xy (l : List Wn) : Prop := ∀ x ∈ l, ∀ y ∈ x.f2, 0 ≤ y ∧ y < 18446744073709551616
theorem takeM_xy {l : List Wn} (h : Xy l) (nx : Nat) : ∀ y ∈ (takeM l nx).1.f2, 0 ≤ y ∧ y < 18446744073709551616 := by
  unfold takeM
  split
  · intro y hy; cases hy
  · rename_i c
    refine h _ ?_
    rw [rd_Wn, Int.toNat_natCast, List.getD_eq_getElem?_getD, List.getElem?_eq_getElem (by omega)]
    exact List.getElem_mem _
theorem ptM_ok {xy : List Int} (h : ∀ y ∈ xy, 0 ≤ y ∧ y < 18446744073709551616) (i : Nat) : Rg (ptM xy i) ∧ classOf (ptM xy i).f0 ≤ 2 ∧ classOf (ptM xy i).f1 ≤ 2 := by
  unfold ptM
  split
  · rename_i c
    have hm : ∀ j : Nat, j < xy.length → rd xy (j : Int) ∈ xy := fun j hj => by
      rw [rd, Int.toNat_natCast, List.getD_eq_getElem?_getD, List.getElem?_eq_getElem hj]
      exact List.getElem_mem _
    have h1 := h _ (hm (2 * i) (by omega))
    have h2 := h _ (hm (2 * i + 1) c)
    have k1 := finM_ok _ h1.1 h1.2
    have k2 := finM_ok _ h2.1 h2.2
    exact ⟨⟨k1.1, k2.1⟩, k1.2, k2.2⟩
  · refine ⟨⟨⟨?_, ?_⟩, ?_, ?_⟩, ?_, ?_⟩ <;> (unfold onePt; dsimp only)
    · decide
    · decide
    · decide
    · decide
    · have : classOf 4607182418800017408 = 2 := by kernel_rfl
      rw [this]; decide
    · have : classOf 4607182418800017408 = 2 := by kernel_rfl
      rw [this]; decide
theorem ptsM_ok {xy : List Int} (h : ∀ y ∈ xy, 0 ≤ y ∧ y < 18446744073709551616) (n : Nat) : finL (ptsM xy n) = true ∧ ∀ q ∈ ptsM xy n, Rg q := by
  refine ⟨?_, ?_⟩
  · unfold finL finLC finC
    rw [List.all_eq_true]
    intro q hq
    obtain ⟨i, hi, rfl⟩ := List.mem_map.1 hq
    have := ptM_ok h i
    rw [Bool.and_eq_true]
    exact ⟨decide_eq_true this.2.1, decide_eq_true this.2.2⟩
  · intro q hq
    obtain ⟨i, hi, rfl⟩ := List.mem_map.1 hq
    exact (ptM_ok h i).1
theorem partsM_all {P : Ge → Prop} (f : Nat → Ge × Nat) (h : ∀ nx, P (f nx).1) : ∀ (m nx : Nat), ∀ p ∈ (partsM f m nx).1, P p := by
  intro m
  induction m with
  | zero => intro nx p hp; cases hp
  | succ m ih =>
    intro nx p hp
    rw [partsM] at hp
    rcases List.mem_cons.1 hp with rfl | hp
    · exact h nx
    · exact ih _ p hp
theorem bulks_all (B : Nat) : ∀ (l : List Ge), (∀ p ∈ l, p.bulk ≤ B) → bulks l ≤ l.length * B := by
  intro l
  induction l with
  | nil => intro _; simp [bulks]
  | cons p l ih =>
    intro h
    rw [bulks, List.length_cons, Nat.add_mul]
    have h1 := h p List.mem_cons_self
    have h2 := ih (fun q hq => h q (List.mem_cons_of_mem _ hq))
    omega
def Fit (kind o : Int) : Prop := (o = 0 ∧ kind = 0) ∨ (o = 7 ∧ kind = 0) ∨ (4 ≤ o ∧ o ≤ 6 ∧ kind = o - 3)
theorem rings_small (xy : List Int) (m : Nat) (hm : m < 5) : ((List.range m).map fun i => ptsM xy (1 + i)).flatten.length ≤ 10 := by
  rw [List.length_flatten, List.map_map]
  have : (List.map (List.length ∘ fun i => ptsM xy (1 + i)) (List.range m)) = List.map (fun i => 1 + i) (List.range m) := List.map_congr_left fun i _ => by simp [ptsM_len]
  rw [this]
  match m, hm with
  | 0, _ => decide
  | 1, _ => decide
  | 2, _ => decide
  | 3, _ => decide
  | 4, _ => decide
theorem mkG_ok {l : List Wn} (hx : Xy l) (f : Nat) : ∀ (nx : Nat) (kind levels lvl o : Int) (L : Nat), levels = (L : Int) + 1 → L + 1 ≤ f → Fit kind o →
    AllG (mkG l f nx kind levels).1 lvl o ∧ (∀ x ∈ nodes (mkG l f nx kind levels).1 lvl o, x.f1 ≤ lvl + L) ∧ (mkG l f nx kind levels).1.bulk + 1 ≤ 16 * 4 ^ L := by
  induction f with
  | zero => intro nx kind levels lvl o L _ h; omega
  | succ f ih =>
    intro nx kind levels lvl o L hL hf hfit
    have hkind : 0 ≤ kind ∧ kind ≤ 7 := by unfold Fit at hfit; omega
    have hkr := kindM_range (takeM l nx).1 kind levels hkind
    have hxy := takeM_xy hx nx
    have hm5 := (manyM_lt (takeM l nx).1).1
    obtain ⟨x, hx_⟩ : ∃ y, y = (takeM l nx).1 := ⟨_, rfl⟩
    obtain ⟨n1, hn1⟩ : ∃ y, y = (takeM l nx).2 := ⟨_, rfl⟩
    unfold mkG
    rw [← hx_] at hkr hxy hm5
    rw [← hx_, ← hn1]
    obtain ⟨k, hk⟩ : ∃ y, y = kindM x kind levels := ⟨_, rfl⟩
    rw [← hk] at hkr ⊢
    obtain ⟨m, hm⟩ : ∃ y, y = manyM x := ⟨_, rfl⟩
    rw [← hm] at hm5 ⊢
    have hfb : fitsB k o = true := by
      unfold fitsB
      unfold Fit at hfit
      split
      · exact decide_eq_true (by omega)
      · rfl
    have hpow : 0 < 4 ^ L := Nat.pow_pos (by decide)
    by_cases k1 : k = 1
    · rw [if_pos k1]
      have hok := ptsM_ok hxy (m % 2)
      refine ⟨gd_mk (shaped_mk (by omega) (by rw [← k1]; exact hfb) (fun h => absurd h (by decide)) (fun _ => rfl) (fun _ => rfl) (by simp) (fun _ => by rw [ptsM_len]; omega)) (by simpa [own] using hok.1) (by simpa [own] using hok.2) (by simp), deep_mk (by omega) (by simp), ?_⟩
      rw [Ge.bulk_eq]
      simp only [List.length_nil, List.flatten_nil, bulks, ptsM_len]
      omega
    rw [if_neg k1]
    by_cases k2 : k = 2
    · rw [if_pos k2]
      have hok := ptsM_ok hxy m
      refine ⟨gd_mk (shaped_mk (by omega) (by rw [← k2]; exact hfb) (fun h => absurd h (by decide)) (fun _ => rfl) (fun _ => rfl) (by simp) (fun h => absurd h (by decide))) (by simpa [own] using hok.1) (by simpa [own] using hok.2) (by simp), deep_mk (by omega) (by simp), ?_⟩
      rw [Ge.bulk_eq]
      simp only [List.length_nil, List.flatten_nil, bulks, ptsM_len]
      omega
    rw [if_neg k2]
    by_cases k3 : k = 3
    · rw [if_pos k3]
      refine ⟨gd_mk (shaped_mk (by omega) (by rw [← k3]; exact hfb) (fun _ => rfl) (fun h => absurd rfl h) (fun _ => rfl) ?_ (fun h => absurd h (by decide))) ?_ ?_ (by simp), deep_mk (by omega) (by simp), ?_⟩
      · intro r hr e
        obtain ⟨i, hi, rfl⟩ := List.mem_map.1 hr
        have := congrArg List.length e
        rw [ptsM_len] at this
        simp at this
      · rw [finL_own, Bool.and_eq_true, List.all_eq_true]
        refine ⟨rfl, fun r hr => ?_⟩
        obtain ⟨i, hi, rfl⟩ := List.mem_map.1 hr
        exact (ptsM_ok hxy _).1
      · intro q hq
        unfold own at hq
        rw [List.nil_append] at hq
        obtain ⟨r, hr, hq⟩ := List.mem_flatten.1 hq
        obtain ⟨i, hi, rfl⟩ := List.mem_map.1 hr
        exact (ptsM_ok hxy _).2 q hq
      · have h10 := rings_small x.f2 m hm5
        rw [Ge.bulk_eq]
        simp only [List.length_nil, bulks, List.length_map, List.length_range]
        omega
    rw [if_neg k3]
    have hL1 : 1 ≤ L := by omega
    obtain ⟨L', rfl⟩ : ∃ L', L = L' + 1 := ⟨L - 1, by omega⟩
    obtain ⟨pk, hpk⟩ : ∃ y, y = (if k = 7 then 0 else k - 3) := ⟨_, rfl⟩
    rw [← hpk]
    have hfp : Fit pk k := by
      unfold Fit
      rw [hpk]
      split <;> omega
    have hall : ∀ nx, AllG (mkG l f nx pk (levels - 1)).1 (lvl + 1) k ∧ (∀ x ∈ nodes (mkG l f nx pk (levels - 1)).1 (lvl + 1) k, x.f1 ≤ lvl + 1 + L') ∧ (mkG l f nx pk (levels - 1)).1.bulk + 1 ≤ 16 * 4 ^ L' := fun nx =>
      ih nx pk (levels - 1) (lvl + 1) k L' (by omega) (by omega) hfp
    have hps := partsM_all (P := fun p => AllG p (lvl + 1) k ∧ (∀ x ∈ nodes p (lvl + 1) k, x.f1 ≤ lvl + 1 + L') ∧ p.bulk + 1 ≤ 16 * 4 ^ L') (fun p => mkG l f p pk (levels - 1)) hall m n1
    have hlen := partsM_len (fun p => mkG l f p pk (levels - 1)) m n1
    generalize (partsM (fun p => mkG l f p pk (levels - 1)) m n1).1 = ps at hps hlen
    refine ⟨gd_mk (shaped_mk (by omega) hfb (fun _ => rfl) (fun _ => rfl) (fun h => by omega) (by simp) (fun h => absurd h k1)) rfl (by simp [own]) (fun p hp => (hps p hp).1), deep_mk (by omega) (fun p hp y hy => ?_), ?_⟩
    · have := (hps p hp).2.1 y hy
      omega
    · have hb := bulks_all (16 * 4 ^ L' - 1) ps (fun p hp => by have := (hps p hp).2.2; omega)
      rw [hlen] at hb
      rw [Ge.bulk_eq]
      simp only [List.length_nil, List.flatten_nil]
      have h4 : m * (16 * 4 ^ L' - 1) ≤ 4 * (16 * 4 ^ L' - 1) := Nat.mul_le_mul_right _ (by omega)
      have h1' : 0 < 4 ^ L' := Nat.pow_pos (by decide)
      rw [Nat.pow_succ]
      omega
/-- The tree that grown makes. -/
def treeM (l : List Wn) : Ge := (mkG l 6 0 0 6).1
theorem scan_none : ∀ (l : List It) (k n : Nat), (∀ x ∈ l, shapedB x = true ∧ finL (own x.f0) = true ∧ x.f1 ≤ 256) → n + l.length + ptsOf l ≤ 65536 → scanC k n l = none := by
  intro l
  induction l with
  | nil => intro k n _ _; rfl
  | cons x l ih =>
    intro k n h hn
    rw [List.length_cons, ptsOf_cons] at hn
    obtain ⟨h1, h2, h3⟩ := h x List.mem_cons_self
    have hw : wrongC x ((n + 1 + (own x.f0).length : Nat) : Int) = 0 := by
      rw [wrong_eq, if_neg (by omega), if_pos h1, if_neg (by omega), if_pos h2]
    rw [scanC_cons, if_pos hw]
    exact ih _ _ (fun y hy => h y (List.mem_cons_of_mem _ hy)) (by omega)
theorem nodes_wt (g : Ge) : ∀ lvl o : Int, (nodes g lvl o).length + ptsOf (nodes g lvl o) ≤ g.bulk := by
  induction g using Ge.ind with
  | h g ih =>
    intro lvl o
    rw [nodes_eq, List.length_cons, ptsOf_cons]
    have hq := g.bulk_eq
    have ho : (own g).length = g.f1.length + g.f2.flatten.length := by unfold own; rw [List.length_append]
    have : ∀ ps : List Ge, (∀ p ∈ ps, p ∈ g.f3) → (nodesL ps (lvl + 1) g.f0).length + ptsOf (nodesL ps (lvl + 1) g.f0) ≤ bulks ps := by
      intro ps
      induction ps with
      | nil => intro _; simp [nodesL, bulks, ptsOf]
      | cons p ps ihp =>
        intro h
        have h1 := ih p (h p List.mem_cons_self) (lvl + 1) g.f0
        have h2 := ihp (fun q hq => h q (List.mem_cons_of_mem _ hq))
        have h3 : ∀ a b : List It, ptsOf (a ++ b) = ptsOf a + ptsOf b := by
          intro a b
          induction a with
          | nil => simp [ptsOf]
          | cons x a iha => rw [List.cons_append, ptsOf_cons, ptsOf_cons, iha]; omega
        simp only [nodesL, bulks, List.length_append, h3]
        omega
    have := this g.f3 (fun _ h => h)
    dsimp only
    omega
theorem check_ok {g : Ge} (h : AllG g 1 0) (hd : ∀ x ∈ nodes g 1 0, x.f1 ≤ 256) (hb : g.bulk ≤ 65536) : checkR g = none := by
  refine scan_none _ 0 0 (fun x hx => ⟨(h x hx).s, (h x hx).f, hd x hx⟩) ?_
  have := nodes_wt g 1 0
  omega
theorem treeM_ok {l : List Wn} (hx : Xy l) : AllG (treeM l) 1 0 ∧ (∀ x ∈ nodes (treeM l) 1 0, x.f1 ≤ 6) ∧ (treeM l).bulk ≤ 16384 ∧ checkR (treeM l) = none := by
  have h := mkG_ok hx 6 0 0 6 1 0 5 (by decide) (by decide) (.inl ⟨rfl, rfl⟩)
  have h1 : (treeM l).bulk + 1 ≤ 16 * 4 ^ 5 := h.2.2
  have h2 : (16 * 4 ^ 5 : Nat) = 16384 := by decide
  have h3 : ∀ x ∈ nodes (treeM l) 1 0, x.f1 ≤ 6 := fun x hx => by have := h.2.1 x hx; omega
  exact ⟨h.1, h3, by omega, check_ok h.1 (fun x hx => by have := h3 x hx; omega) (by omega)⟩
end Go.Proofs.Ytiiolhnpnlmkjaa.Tree
