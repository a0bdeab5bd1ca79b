/- Texts of this claim laid one behind the other (TMkS; TMk): what each proves stands at its own names; the last one is the claim's. No conditions but those told. -/
import Derived.Test.YtiiolhnpnlmkjaaZWbh
import Derived.Laws.Small
namespace Go.Proofs.Ytiiolhnpnlmkjaa.Tree
open Go.RowKit Go.Proofs.Ytiiolhnpnlmkjaa.PWkbPrints Go.Proofs.YtiiolhnpnlmkjaaW.PrintWords Go.Proofs.YtiiolhnpnlmkjaaW.PrintLast Go.Proofs.YtiiolhnpnlmkjaaW.PrintMore Go.Proofs.Ytiiolhnpnlmkjaa.PMk
attribute [local go_sem] Oper.semAt_some max2_int max_two min2_int min_two
def intoN (n top : Int) : Int := if Int.tmod n top < 0 then Int.tmod n top + top else Int.tmod n top
theorem intoN_range (n top : Int) (h : 0 < top) : 0 ≤ intoN n top ∧ intoN n top < top := by
  have h1 := Int.tmod_lt_of_pos n h
  have h2 := Int.lt_tmod_of_pos n h
  unfold intoN
  split <;> omega
theorem into_f (n top : Int) (h : 0 < top) (ht : top ≤ 1099511627776) : plumblaw17_into.f n top = some (intoN n top) := by
  have h1 := Int.tmod_lt_of_pos n h
  have h2 := Int.lt_tmod_of_pos n h
  unfold plumblaw17_into.f intoN
  rw [if_neg (by omega)]
  split
  · rw [show wrap64 (Int.tmod n top + top) = Int.tmod n top + top from by unfold wrap64; omega]
  · rfl
def finM (b : Int) : Int := if Go.bits .and .u64 (b / 4503599627370496) 2047 = 2047 then Go.bits .andNot .u64 b 4503599627370496 else b
def onePt : Pt := ⟨4607182418800017408, 4607182418800017408⟩
def ptM (xy : List Int) (i : Nat) : Pt := if 2 * i + 1 < xy.length then ⟨finM (rd xy ((2 * i : Nat) : Int)), finM (rd xy ((2 * i + 1 : Nat) : Int))⟩ else onePt
def ptsM (xy : List Int) (n : Nat) : List Pt := (List.range n).map (ptM xy)
theorem ptsM_len (xy : List Int) (n : Nat) : (ptsM xy n).length = n := by simp [ptsM]
theorem finM_f (b : Int) : plumblaw17_finite.f b = some (finM b) := by
  unfold plumblaw17_finite.f finM
  split <;> rfl
theorem points_l (xy : List Int) (hl : xy.length ≤ 1152921504606846976) (a0 a1 : Int) (n : Nat) (hn : n ≤ 1000) : ∀ (d k i : Nat), i + d = n → d < k → plumblaw17_points.l0 k (n : Int) (ptsM xy i) (i : Int) a0 a1 xy = some (ptsM xy n) := by
  intro d
  induction d with
  | zero =>
    intro k i hi hk
    obtain ⟨k, rfl⟩ : ∃ m, k = m + 1 := ⟨k - 1, by omega⟩
    obtain rfl : i = n := by omega
    rw [plumblaw17_points.l0, if_neg (by omega)]
  | succ d ih =>
    intro k i hi hk
    obtain ⟨k, rfl⟩ : ∃ m, k = m + 1 := ⟨k - 1, by omega⟩
    have e1 : wrap64 (2 * (i : Int)) = ((2 * i : Nat) : Int) := by unfold wrap64; omega
    have e2 : wrap64 (((2 * i : Nat) : Int) + 1) = ((2 * i + 1 : Nat) : Int) := by unfold wrap64; omega
    have e3 : wrap64 ((i : Int) + 1) = ((i + 1 : Nat) : Int) := by unfold wrap64; omega
    have e4 : ptsM xy (i + 1) = ptsM xy i ++ [ptM xy i] := by unfold ptsM; rw [List.range_succ, List.map_append]; rfl
    have h4 := ih k (i + 1) (by omega) (by omega)
    rw [e4] at h4
    rw [plumblaw17_points.l0, if_pos (by omega), e1, e2, e3]
    by_cases c : 2 * i + 1 < xy.length
    · rw [if_pos (by omega), if_pos (by omega), if_pos (by omega), finM_f, Math.obind, if_pos (by omega), finM_f, Math.obind, if_pos (by rw [ptsM_len]; omega)]
      have e5 : ptM xy i = ⟨finM (rd xy ((2 * i : Nat) : Int)), finM (rd xy ((2 * i + 1 : Nat) : Int))⟩ := if_pos c
      rw [e5] at h4
      exact h4
    · rw [if_neg (by omega), if_pos (by rw [ptsM_len]; omega)]
      have e5 : ptM xy i = onePt := if_neg c
      rw [e5] at h4
      exact h4
theorem points_f (xy : List Int) (hl : xy.length ≤ 1152921504606846976) (a0 a1 : Int) (n : Nat) (hn : n ≤ 1000) : plumblaw17_points.f 1001 a0 a1 xy (n : Int) = some (ptsM xy n) := points_l xy hl a0 a1 n hn n 1001 0 (by omega) (by omega)
theorem pointsM_calls (x : Wn) (A : Option Addr) (c : Nat) (n : Nat) (w : World) (hC : Kd.C (Kd.int .u64) w A x.f2.length x.f2) (hc : x.f2.length ≤ c) (hl : x.f2.length ≤ 1152921504606846976) (hn : n ≤ 1000) :
    Calls Try.prog 32 #[.agg #[.int .i64 x.f0, .int .i64 x.f1, .slice A x.f2.length c], .int .i64 (n : Int)] w fun e w' => ∃ u, e = .returned u ∧ kPt.R 65 w' w.heap.size (fun _ => True) u (ptsM x.f2 n) ∧ Below w.heap.size w w' :=
  plumblaw17_points.calls 1001 x.f0 x.f1 A c x.f2 n (ptsM x.f2 n) w hC hc (points_f x.f2 hl x.f0 x.f1 n hn)
theorem intoM_calls (n top : Int) (h : 0 < top) (ht : top ≤ 1099511627776) (w : World) : Calls Try.prog 31 #[.int .i64 n, .int .i64 top] w fun e w' => e = .returned (.int .i64 (intoN n top)) ∧ Below w.heap.size w w' := by
  refine (plumblaw17_into.calls n top _ w (into_f n top h ht)).mono ?_
  rintro e w' ⟨rfl, m, rfl⟩
  exact ⟨rfl, pw_below_drewN (Below.refl _ _) _⟩
def takeM (l : List Wn) (nx : Nat) : Wn × Nat := if l.length ≤ nx ∨ 60 ≤ nx then (zWn, nx) else (rd_Wn l (nx : Int), nx + 1)
def partsM (f : Nat → Ge × Nat) : Nat → Nat → List Ge × Nat
  | 0, nx => ([], nx)
  | m + 1, nx => ((f nx).1 :: (partsM f m (f nx).2).1, (partsM f m (f nx).2).2)
theorem partsM_snoc (f : Nat → Ge × Nat) : ∀ (m nx : Nat), partsM f (m + 1) nx = ((partsM f m nx).1 ++ [(f (partsM f m nx).2).1], (f (partsM f m nx).2).2) := by
  intro m
  induction m with
  | zero => intro nx; rfl
  | succ m ih =>
    intro nx
    rw [partsM, ih, partsM]
    rfl
theorem partsM_len (f : Nat → Ge × Nat) : ∀ (m nx : Nat), (partsM f m nx).1.length = m := by
  intro m
  induction m with
  | zero => intro nx; rfl
  | succ m ih => intro nx; rw [partsM, List.length_cons, ih]
/-- The kind that is made, and how many. -/
def kindM (x : Wn) (kind levels : Int) : Int := if levels < 2 ∧ 3 < (if kind = 0 then 1 + intoN x.f0 7 else kind) then 1 else if kind = 0 then 1 + intoN x.f0 7 else kind
def manyM (x : Wn) : Nat := (intoN x.f1 5).toNat
/-- The tree that the next nodes make, and which is the next then. -/
def mkG (l : List Wn) : Nat → Nat → Int → Int → Ge × Nat
  | 0, nx, _, _ => (⟨1, [], [], []⟩, nx)
  | f + 1, nx, kind, levels =>
    if kindM (takeM l nx).1 kind levels = 1 then (⟨1, ptsM (takeM l nx).1.f2 (manyM (takeM l nx).1 % 2), [], []⟩, (takeM l nx).2)
    else if kindM (takeM l nx).1 kind levels = 2 then (⟨2, ptsM (takeM l nx).1.f2 (manyM (takeM l nx).1), [], []⟩, (takeM l nx).2)
    else if kindM (takeM l nx).1 kind levels = 3 then (⟨3, [], (List.range (manyM (takeM l nx).1)).map (fun i => ptsM (takeM l nx).1.f2 (1 + i)), []⟩, (takeM l nx).2)
    else (⟨kindM (takeM l nx).1 kind levels, [], [], (partsM (fun p => mkG l f p (if kindM (takeM l nx).1 kind levels = 7 then 0 else kindM (takeM l nx).1 kind levels - 3) (levels - 1)) (manyM (takeM l nx).1) (takeM l nx).2).1⟩,
      (partsM (fun p => mkG l f p (if kindM (takeM l nx).1 kind levels = 7 then 0 else kindM (takeM l nx).1 kind levels - 3) (levels - 1)) (manyM (takeM l nx).1) (takeM l nx).2).2)
theorem manyM_lt (x : Wn) : manyM x < 5 ∧ ((manyM x : Nat) : Int) = intoN x.f1 5 := by
  have := intoN_range x.f1 5 (by decide)
  unfold manyM
  omega
theorem kindM_range (x : Wn) (kind levels : Int) (hk : 0 ≤ kind ∧ kind ≤ 7) : 1 ≤ kindM x kind levels ∧ kindM x kind levels ≤ 7 ∧ (levels < 2 → kindM x kind levels ≤ 3) ∧ (1 ≤ kind → kind ≤ 3 → kindM x kind levels = kind) := by
  have := intoN_range x.f0 7 (by decide)
  unfold kindM
  generalize intoN x.f0 7 = i at *
  by_cases h0 : kind = 0
  · rw [if_pos h0]
    split <;> omega
  · rw [if_neg h0]
    split <;> omega
structure Mk (w0 W : World) (gm : Nat) (l : List Wn) (A : Option Addr) (c nx : Nat) : Prop where
  c : W.heap[gm]? = some (.cells #[.slice A l.length c, .int .i64 (nx : Int)] 61 (0, 0))
  r : Kd.C kWn w0 A l.length l
  h : w0.heap.size ≤ gm
  K : Below w0.heap.size w0 W
  n : nx ≤ 60
/-- Between two worlds the maker alone is changed. -/
structure Mp (W W' : World) (gm : Nat) : Prop where
  s : W.heap.size ≤ W'.heap.size
  k : ∀ j, j < W.heap.size → j ≠ gm → W'.heap[j]? = W.heap[j]?
section
variable {w0 W W' W2 : World} {gm : Nat} {l : List Wn} {A : Option Addr} {c nx nx' : Nat}
theorem Mp.below (gm : Nat) (h : Below W.heap.size W W') : Mp W W' gm := ⟨h.size, fun j hj _ => h.block j hj⟩
theorem Mp.trans (h : Mp W W' gm) (k : Mp W' W2 gm) : Mp W W2 gm := ⟨Nat.le_trans h.s k.s, fun j hj hn => (k.k j (Nat.lt_of_lt_of_le hj h.s) hn).trans (h.k j hj hn)⟩
theorem Mk.below (h : Mk w0 W gm l A c nx) (hb : Below W.heap.size W W') : Mk w0 W' gm l A c nx := ⟨blk_below h.c hb, h.r, h.h, below_step h.K hb, h.n⟩
theorem Mk.keepB (hP : Mk w0 W gm l A c nx) (hv : Mp W W' gm) {k : Nat} {cs : Array Value} {q : Nat} (hc : W.heap[k]? = some (.cells cs q (0, 0))) (hq : q ≠ 61) : W'.heap[k]? = some (.cells cs q (0, 0)) := by
  refine (hv.k k (blk_lt hc) ?_).trans hc
  rintro rfl
  rw [hP.c] at hc
  injection hc with hc
  injection hc with _ hc
  exact hq hc.symm
theorem Mk.keepS {α : Type} {d : Kd α} {e base : Nat} {ok : Nat → Prop} {v : Value} {xs : List α} (hP : Mk w0 W gm l A c nx) (hv : Mp W W' gm) (h : Kd.S d e W base ok v xs) (he : ∀ q, q ∈ e :: d.E → q ≠ 61) : Kd.S d e W' base (fun k => ok k ∧ k < W.heap.size) v xs := by
  refine Kd.S_mono (Kd.S_step (Kd.S_bound h) ?_) (fun _ hk => ⟨hk.1, hk.2.2.1⟩)
  rintro k ⟨_, _, hlt, q, hq, cells, hc⟩ _
  exact (hP.keepB hv hc (he q hq)).trans hc.symm
theorem Mk.grownO {row : Option Nat} (hP : Mk w0 W gm l A c nx) (hg : W.grownBy W' row) (hr : ∀ g, row = some g → w0.heap.size ≤ g ∧ g ≠ gm) : Mk w0 W' gm l A c nx :=
  ⟨blk_grown hP.c hg (fun e => (hr gm e.symm).2 rfl), hP.r, hP.h, hP.K.grown hg hP.K.size (fun k hk => (hr k hk).1), hP.n⟩
theorem Mp.grownO {W0 : World} {row : Option Nat} (h : Mp W0 W gm) (hg : W.grownBy W' row) (hr : ∀ g, row = some g → W0.heap.size ≤ g) : Mp W0 W' gm :=
  ⟨Nat.le_trans h.s hg.size, fun j hj h1 => (hg.block j (Nat.lt_of_lt_of_le hj h.s) (fun e => by have := hr j e.symm; omega)).trans (h.k j hj h1)⟩
end
theorem results_node {fn : Func} {a : Tmp} (h : fn.results = #[.cell a 86]) (tmps : Array Value) (w : World) {b : Nat} {q0 q1 q2 : Value} (hp : tmps.getD a undef = .pointer (some ⟨b, 0, none⟩)) (hb : w.heap[b]? = some (.cells #[q0, q1, q2] 86 (0, 0))) : (results fn tmps).run Try.prog w = .ok (.agg #[q0, q1, q2]) w := by
  rw [Array.getD_eq_getD_getElem?] at hp
  have hu := Try.underlying86
  have c0 : w.cell? ⟨b, 0, none⟩ = some q0 := (blk_cell hb 0).trans rfl
  have c1 : w.cell? ⟨b, 1, none⟩ = some q1 := (blk_cell hb 1).trans rfl
  have c2 : w.cell? ⟨b, 2, none⟩ = some q2 := (blk_cell hb 2).trans rfl
  simp [results, h, hp, go_sem, asAddr, c0, c1, c2]
/-- A node as a value: its numbers lie in memory that came in. -/
def IsN (w0 : World) (u : Value) (x : Wn) : Prop := ∃ A c, u = .agg #[.int .i64 x.f0, .int .i64 x.f1, .slice A x.f2.length c] ∧ x.f2.length ≤ c ∧ Kd.C (Kd.int .u64) w0 A x.f2.length x.f2
set_option maxRecDepth 100000 in
set_option maxHeartbeats 16000000 in
theorem take_calls (w0 W : World) (gm : Nat) (l : List Wn) (A : Option Addr) (c nx : Nat) (hM : Mk w0 W gm l A c nx) (hl : l.length ≤ 1048576) :
    Calls Try.prog 30 #[.pointer (some ⟨gm, 0, none⟩)] W fun e W' => ∃ u, e = .returned u ∧ IsN w0 u (takeM l nx).1 ∧ Mk w0 W' gm l A c (takeM l nx).2 ∧ Mp W W' gm := by
  have hu := Try.underlying86
  have hum := Try.underlying61
  have hmx : Try.prog.follows .mixedOrders = true := by kernel_rfl
  have hnx := hM.n
  have HW0 := Aside0.mk (show ∀ g, W.heap.size ≤ g → w0.heap.size ≤ g from fun g h => Nat.le_trans hM.K.size h)
  have HM := Aside0.mk hM
  clear hM
  go_enter Try.func30, Try.ntmps30
  go_upto_region 1 with fail
  obtain ⟨gs, hgs⟩ : ∃ y, y = W.heap.size := ⟨_, rfl⟩
  obtain ⟨W0, hW0⟩ : ∃ y, y = W.alloc (.cells #[.int .i64 0, .int .i64 0, .slice none 0 0] 86) := ⟨_, rfl⟩
  rw [← hW0, ← hgs]
  have hb0 : Below W.heap.size W W0 := by rw [hW0]; exact below_alloc (Below.refl _ _) _
  have ks : W0.heap[gs]? = some (.cells #[.int .i64 0, .int .i64 0, .slice none 0 0] 86 (0, 0)) := by rw [hW0, hgs]; exact World.alloc_heap_new _ _
  have hMk := HM.out.below hb0
  have H0 := Aside0.mk (And.intro hMk (And.intro (Mp.below gm hb0) (And.intro ks (show W.heap.size ≤ gs by omega))))
  have z0_ : W0.cell? ⟨gm, 0, none⟩ = some (.slice A l.length c) := (blk_cell hMk.c 0).trans rfl
  have z1_ : W0.cell? ⟨gm, 1, none⟩ = some (.int .i64 (nx : Int)) := (blk_cell hMk.c 1).trans rfl
  clear hW0 hgs hb0 ks hMk HM
  by_cases e1 : l.length ≤ nx
  · have d2 : (l.length : Int) ≤ (nx : Int) := by omega
    have HT := Aside0.mk (show l.length ≤ nx ∨ 60 ≤ nx from .inl e1)
    go_quiet (fail)
    have hb1 : Below W0.heap.size W0 (W0.drewN nq) := pw_below_drewN (Below.refl _ _) _
    obtain ⟨W1, hW1⟩ : ∃ y, y = W0.drewN nq := ⟨_, rfl⟩
    rw [← hW1] at hb1 ⊢
    have hk1 := H0.out.1.below hb1
    have hp1 := H0.out.2.1.trans (Mp.below gm hb1)
    have ks := blk_below H0.out.2.2.1 hb1
    have r0 : W1.cell? ⟨gs, 0, none⟩ = some (.int .i64 0) := (blk_cell ks 0).trans rfl
    have r1 : W1.cell? ⟨gs, 1, none⟩ = some (.int .i64 0) := (blk_cell ks 1).trans rfl
    have r2 : W1.cell? ⟨gs, 2, none⟩ = some (.slice none 0 0) := (blk_cell ks 2).trans rfl
    have t0 := blk_frozen ks 0
    have t1 := blk_frozen ks 1
    have t2 := blk_frozen ks 2
    have K1 := Aside0.mk (And.intro hk1 (And.intro hp1 ks))
    have HLE := Aside0.mk H0.out.2.2.2
    clear hW1 hb1 hk1 hp1 ks z0_ z1_ H0
    go_wp2_with fail
    have bk := blk_set (blk_set (blk_set K1.out.2.2 0 (.int .i64 0)) 1 (.int .i64 0)) 2 (.slice none 0 0)
    refine bodyPost_ret (results_node (a := 2) (by rfl) _ _ (by rfl) (by simpa using bk)) rfl ?_
    have ht : takeM l nx = (zWn, nx) := if_pos HT.out
    rw [ht]
    have hne : gm ≠ gs := fun e => by have h1 := K1.out.1.c; rw [e, K1.out.2.2] at h1; injection h1 with h1; injection h1 with _ h1; exact absurd h1 (by decide)
    have hg1 : W1.grownBy (((W1.setCell ⟨gs, 0, none⟩ (.int .i64 0)).setCell ⟨gs, 1, none⟩ (.int .i64 0)).setCell ⟨gs, 2, none⟩ (.slice none 0 0)) (some gs) := ⟨rfl, rfl, rfl, by simp, fun k _ hn => by
      have hk : k ≠ gs := fun e => hn (by rw [e])
      exact (Below.heap_setCell _ ⟨gs, 2, none⟩ _ k hk).trans ((Below.heap_setCell _ ⟨gs, 1, none⟩ _ k hk).trans (Below.heap_setCell _ ⟨gs, 0, none⟩ _ k hk))⟩
    have hle := HLE.out
    have hw0 := K1.out.1.K.size
    have hgs0 : w0.heap.size ≤ gs := HW0.out gs hle
    exact ⟨_, rfl, ⟨none, 0, rfl, Nat.le_refl _, Kd.C_nil _ _⟩, K1.out.1.grownO hg1 (fun g e => by injection e with e; subst e; exact ⟨hgs0, fun e => hne e.symm⟩), K1.out.2.1.grownO hg1 (fun g e => by injection e with e; subst e; exact hle)⟩
  have d2 : ¬ (l.length : Int) ≤ (nx : Int) := by omega
  by_cases e2 : 60 ≤ nx
  · have d3 : (60 : Int) ≤ (nx : Int) := by omega
    have HT := Aside0.mk (show l.length ≤ nx ∨ 60 ≤ nx from .inr e2)
    go_quiet (fail)
    have hb1 : Below W0.heap.size W0 (W0.drewN nq) := pw_below_drewN (Below.refl _ _) _
    obtain ⟨W1, hW1⟩ : ∃ y, y = W0.drewN nq := ⟨_, rfl⟩
    rw [← hW1] at hb1 ⊢
    have hk1 := H0.out.1.below hb1
    have hp1 := H0.out.2.1.trans (Mp.below gm hb1)
    have ks := blk_below H0.out.2.2.1 hb1
    have r0 : W1.cell? ⟨gs, 0, none⟩ = some (.int .i64 0) := (blk_cell ks 0).trans rfl
    have r1 : W1.cell? ⟨gs, 1, none⟩ = some (.int .i64 0) := (blk_cell ks 1).trans rfl
    have r2 : W1.cell? ⟨gs, 2, none⟩ = some (.slice none 0 0) := (blk_cell ks 2).trans rfl
    have t0 := blk_frozen ks 0
    have t1 := blk_frozen ks 1
    have t2 := blk_frozen ks 2
    have K1 := Aside0.mk (And.intro hk1 (And.intro hp1 ks))
    have HLE := Aside0.mk H0.out.2.2.2
    clear hW1 hb1 hk1 hp1 ks z0_ z1_ H0
    go_wp2_with fail
    have bk := blk_set (blk_set (blk_set K1.out.2.2 0 (.int .i64 0)) 1 (.int .i64 0)) 2 (.slice none 0 0)
    refine bodyPost_ret (results_node (a := 2) (by rfl) _ _ (by rfl) (by simpa using bk)) rfl ?_
    have ht : takeM l nx = (zWn, nx) := if_pos HT.out
    rw [ht]
    have hne : gm ≠ gs := fun e => by have h1 := K1.out.1.c; rw [e, K1.out.2.2] at h1; injection h1 with h1; injection h1 with _ h1; exact absurd h1 (by decide)
    have hg1 : W1.grownBy (((W1.setCell ⟨gs, 0, none⟩ (.int .i64 0)).setCell ⟨gs, 1, none⟩ (.int .i64 0)).setCell ⟨gs, 2, none⟩ (.slice none 0 0)) (some gs) := ⟨rfl, rfl, rfl, by simp, fun k _ hn => by
      have hk : k ≠ gs := fun e => hn (by rw [e])
      exact (Below.heap_setCell _ ⟨gs, 2, none⟩ _ k hk).trans ((Below.heap_setCell _ ⟨gs, 1, none⟩ _ k hk).trans (Below.heap_setCell _ ⟨gs, 0, none⟩ _ k hk))⟩
    have hle := HLE.out
    have hw0 := K1.out.1.K.size
    have hgs0 : w0.heap.size ≤ gs := HW0.out gs hle
    exact ⟨_, rfl, ⟨none, 0, rfl, Nat.le_refl _, Kd.C_nil _ _⟩, K1.out.1.grownO hg1 (fun g e => by injection e with e; subst e; exact ⟨hgs0, fun e => hne e.symm⟩), K1.out.2.1.grownO hg1 (fun g e => by injection e with e; subst e; exact hle)⟩
  have d3 : ¬ (60 : Int) ≤ (nx : Int) := by omega
  go_quiet (fail)
  have hb1 : Below W0.heap.size W0 (W0.drewN nq) := pw_below_drewN (Below.refl _ _) _
  obtain ⟨W1, hW1⟩ : ∃ y, y = W0.drewN nq := ⟨_, rfl⟩
  rw [← hW1] at hb1 ⊢
  have hk1 := H0.out.1.below hb1
  have hp1 := H0.out.2.1.trans (Mp.below gm hb1)
  have ks := blk_below H0.out.2.2.1 hb1
  have z0_ : W1.cell? ⟨gm, 0, none⟩ = some (.slice A l.length c) := (blk_cell hk1.c 0).trans rfl
  have z1_ : W1.cell? ⟨gm, 1, none⟩ = some (.int .i64 (nx : Int)) := (blk_cell hk1.c 1).trans rfl
  have y1_ := blk_frozen hk1.c 1
  have K1 := Aside0.mk (And.intro hk1 (And.intro hp1 ks))
  have HLE := Aside0.mk H0.out.2.2.2
  clear hW1 hb1 hk1 hp1 ks H0
  go_upto_region 4 with fail
  obtain ⟨W2, hW2⟩ : ∃ y, y = W1.setCell ⟨gm, 1, none⟩ (.int .i64 ((nx : Int) + 1)) := ⟨_, rfl⟩
  rw [← hW2]
  have hg2 : W1.grownBy W2 (some gm) := by rw [hW2]; exact grown_set W1 gm 1 _
  have hw0 : w0.heap.size ≤ gm := K1.out.1.h
  have hk2 : Mk w0 W2 gm l A c (nx + 1) := ⟨by rw [hW2]; simpa using blk_set K1.out.1.c 1 (.int .i64 ((nx : Int) + 1)), K1.out.1.r, hw0, K1.out.1.K.grown hg2 K1.out.1.K.size (fun k e => by injection e with e; subst e; exact hw0), by omega⟩
  have hm2 : Mp W W2 gm := by
    refine K1.out.2.1.trans ⟨by rw [hW2]; simp, fun j hj hn => ?_⟩
    rw [hW2]
    exact Below.heap_setCell W1 ⟨gm, 1, none⟩ _ j hn
  have hgsm : gs ≠ gm := fun e => by have h1 := K1.out.1.c; rw [← e, K1.out.2.2] at h1; injection h1 with h1; injection h1 with _ h1; exact absurd h1 (by decide)
  have ks2 : W2.heap[gs]? = some (.cells #[.int .i64 0, .int .i64 0, .slice none 0 0] 86 (0, 0)) := by rw [hW2]; exact (Below.heap_setCell W1 ⟨gm, 1, none⟩ _ gs hgsm).trans K1.out.2.2
  obtain ⟨ad, A2, c2, eA, x0, x1, x2, l2, g2⟩ := at_Wn hk2.r (nx : Int) (by omega) (by omega)
  have hT : (takeM l nx) = (rd_Wn l (nx : Int), nx + 1) := if_neg (by omega)
  have y0 := (hk2.K.cell (World.block_lt_of_cell? w0 _ x0)).trans x0
  have y1 := (hk2.K.cell (World.block_lt_of_cell? w0 _ x1)).trans x1
  have y2 := (hk2.K.cell (World.block_lt_of_cell? w0 _ x2)).trans x2
  rw [Int.toNat_natCast] at y0 y1 y2
  subst eA
  have z0 : W2.cell? ⟨gm, 0, none⟩ = some (.slice (some ad) l.length c) := (blk_cell hk2.c 0).trans rfl
  have z1 : W2.cell? ⟨gm, 1, none⟩ = some (.int .i64 (((nx + 1 : Nat) : Int))) := (blk_cell hk2.c 1).trans rfl
  have HK2 := Aside0.mk (And.intro hk2 (And.intro hm2 (And.intro ks2 (And.intro l2 g2))))
  have hT2 := Aside0.mk hT
  clear hW2 hg2 hk2 hm2 ks2 l2 g2 x0 x1 x2 K1 z0_ z1_ y1_ hT hgsm
  rw [show (((nx + 1 : Nat) : Int)) = (nx : Int) + 1 from by omega] at z1
  obtain ⟨x, hx⟩ : ∃ x, x = rd_Wn l (nx : Int) := ⟨_, rfl⟩
  rw [← hx] at y0 y1 y2 HK2 hT2
  clear hx
  refine start_ (n := 12) (S := fun w' => w'.cell? ⟨gm, 0, none⟩ = some (.slice (some ad) l.length c) ∧ w'.cell? ⟨gm, 1, none⟩ = some (.int .i64 ((nx : Int) + 1)) ∧ w'.cell? (ad.add (nx * 3)) = some (.int .i64 x.f0) ∧ w'.cell? ⟨(ad.add (nx * 3)).block, (ad.add (nx * 3)).off + 1, none⟩ = some (.int .i64 x.f1) ∧ w'.cell? ⟨(ad.add (nx * 3)).block, (ad.add (nx * 3)).off + 2, none⟩ = some (.slice A2 x.f2.length c2) ∧ True) (ds := [11]) #[false, false, false, false, false, false, false, false, false, false, false, false] hmx rfl rfl ⟨z0, z1, y0, y1, y2, trivial⟩ (fun hHeld => ?_)
  have hwn : IntKind.i64.wrap (nx : Int) = (nx : Int) := by rw [IntKind.wrap_i64]; omega
  have hlt0 : (0 : Int) ≤ (nx : Int) := by omega
  have hlt1 : (nx : Int) < (l.length : Int) := by omega
  (refine pure_ (i := 0) (N := some 28) (v := ?_) (a' := ?_) #[true, false, false, false, false, false, false, false, false, false, false, false] rfl rfl (by kernel_rfl) (fun _ _ _ h => h) (Or.inl ⟨by rfl, ?_⟩) ?_ ?_; rotate_left; (focus (intro w'_; go_simp; with_reducible rfl)); rotate_left; (focus (simp only [Act.put, List.setIfInBounds_toArray, List.set_cons_zero, List.set_cons_succ]; rfl)))
  (refine pure_ (i := 1) (N := some 29) (v := ?_) (a' := ?_) #[true, true, false, false, false, false, false, false, false, false, false, false] rfl rfl (by kernel_rfl) (fun _ _ _ h => h) (Or.inl ⟨by rfl, ?_⟩) ?_ ?_; rotate_left; (focus (intro w'_; go_simp; with_reducible rfl)); rotate_left; (focus (simp only [Act.put, List.setIfInBounds_toArray, List.set_cons_zero, List.set_cons_succ]; rfl)))
  (refine pure_ (i := 2) (N := some 30) (v := ?_) (a' := ?_) #[true, true, true, false, false, false, false, false, false, false, false, false] rfl rfl (by kernel_rfl) (fun _ _ _ h => h) (Or.inl ⟨by rfl, ?_⟩) ?_ ?_; rotate_left; (focus (intro w'_; go_simp; with_reducible rfl)); rotate_left; (focus (simp only [Act.put, List.setIfInBounds_toArray, List.set_cons_zero, List.set_cons_succ]; rfl)))
  (refine take_ (i := 3) (N := some 31) (v := ?_) (a' := ?_) #[true, true, true, true, false, false, false, false, false, false, false, false] rfl rfl (by kernel_rfl) (fun _ _ _ h => h) (Or.inl ⟨by rfl, ?_⟩) hHeld ?_ ?_; rotate_left; (focus (intro w'_ hs_; (repeat obtain ⟨_, hs_⟩ := hs_); go_simp; with_reducible rfl)); rotate_left; (focus (simp only [Act.put, List.setIfInBounds_toArray, List.set_cons_zero, List.set_cons_succ]; rfl)))
  (refine pure_ (i := 4) (N := some 32) (v := ?_) (a' := ?_) #[true, true, true, true, true, false, false, false, false, false, false, false] rfl rfl (by kernel_rfl) (fun _ _ _ h => h) (Or.inl ⟨by rfl, ?_⟩) ?_ ?_; rotate_left; (focus (intro w'_; go_simp; with_reducible rfl)); rotate_left; (focus (simp only [Act.put, List.setIfInBounds_toArray, List.set_cons_zero, List.set_cons_succ]; rfl)))
  (refine pure_ (i := 5) (N := some 33) (v := ?_) (a' := ?_) #[true, true, true, true, true, true, false, false, false, false, false, false] rfl rfl (by kernel_rfl) (fun _ _ _ h => h) (Or.inl ⟨by rfl, ?_⟩) ?_ ?_; rotate_left; (focus (intro w'_; go_simp; with_reducible rfl)); rotate_left; (focus (simp only [Act.put, List.setIfInBounds_toArray, List.set_cons_zero, List.set_cons_succ]; rfl)))
  (refine pure_ (i := 6) (N := some 34) (v := ?_) (a' := ?_) #[true, true, true, true, true, true, true, false, false, false, false, false] rfl rfl (by kernel_rfl) (fun _ _ _ h => h) (Or.inl ⟨by rfl, ?_⟩) ?_ ?_; rotate_left; (focus (intro w'_; go_simp; with_reducible rfl)); rotate_left; (focus (simp only [Act.put, List.setIfInBounds_toArray, List.set_cons_zero, List.set_cons_succ]; rfl)))
  (refine take_ (i := 7) (N := some 35) (v := ?_) (a' := ?_) #[true, true, true, true, true, true, true, true, false, false, false, false] rfl rfl (by kernel_rfl) (fun _ _ _ h => h) (Or.inl ⟨by rfl, ?_⟩) hHeld ?_ ?_; rotate_left; (focus (intro w'_ hs_; (repeat obtain ⟨_, hs_⟩ := hs_); go_simp; with_reducible rfl)); rotate_left; (focus (simp only [Act.put, List.setIfInBounds_toArray, List.set_cons_zero, List.set_cons_succ]; rfl)))
  (refine pure_ (i := 8) (N := some 36) (v := ?_) (a' := ?_) #[true, true, true, true, true, true, true, true, true, false, false, false] rfl rfl (by kernel_rfl) (fun _ _ _ h => h) (Or.inl ⟨by rfl, ?_⟩) ?_ ?_; rotate_left; (focus (intro w'_; go_simp; with_reducible rfl)); rotate_left; (focus (simp only [Act.put, List.setIfInBounds_toArray, List.set_cons_zero, List.set_cons_succ]; rfl)))
  (refine pure_ (i := 9) (N := some 37) (v := ?_) (a' := ?_) #[true, true, true, true, true, true, true, true, true, true, false, false] rfl rfl (by kernel_rfl) (fun _ _ _ h => h) (Or.inl ⟨by rfl, ?_⟩) ?_ ?_; rotate_left; (focus (intro w'_; go_simp; with_reducible rfl)); rotate_left; (focus (simp only [Act.put, List.setIfInBounds_toArray, List.set_cons_zero, List.set_cons_succ]; rfl)))
  (refine take_ (i := 10) (N := some 38) (v := ?_) (a' := ?_) #[true, true, true, true, true, true, true, true, true, true, true, false] rfl rfl (by kernel_rfl) (fun _ _ _ h => h) (Or.inl ⟨by rfl, ?_⟩) hHeld ?_ ?_; rotate_left; (focus (intro w'_ hs_; (repeat obtain ⟨_, hs_⟩ := hs_); go_simp; with_reducible rfl)); rotate_left; (focus (simp only [Act.put, List.setIfInBounds_toArray, List.set_cons_zero, List.set_cons_succ]; rfl)))
  refine last_ (i := 11) (N := none) #[true, true, true, true, true, true, true, true, true, true, true, true] rfl rfl (by kernel_rfl) (by decide) (fun K hK => ?_)
  have hbd : Below W2.heap.size W2 W2.drew := below_drew (Below.refl _ _)
  have HKd := Aside0.mk (And.intro (HK2.out.1.below hbd) (And.intro (HK2.out.2.1.trans (Mp.below gm hbd)) (And.intro (blk_below HK2.out.2.2.1 hbd) HK2.out.2.2.2)))
  clear hbd z0 z1 y0 y1 y2 HK2 hHeld
  generalize W2.drew = Wd at *
  have hs0 : Wd.cell? ⟨gs, 0, none⟩ = some (.int .i64 0) := (blk_cell HKd.out.2.2.1 0).trans rfl
  have hs1 : Wd.cell? ⟨gs, 1, none⟩ = some (.int .i64 0) := (blk_cell HKd.out.2.2.1 1).trans rfl
  have hs2 : Wd.cell? ⟨gs, 2, none⟩ = some (.slice none 0 0) := (blk_cell HKd.out.2.2.1 2).trans rfl
  have hf0 := blk_frozen HKd.out.2.2.1 0
  have hf1 := blk_frozen HKd.out.2.2.1 1
  have hf2 := blk_frozen HKd.out.2.2.1 2
  refine skip_ (w1 := ?_) (by rfl) rfl ?_ ?_
  rotate_left
  · go_simp
    rfl
  refine hK.out _ _ ?_
  clear hK K hs0 hs1 hs2 hf0 hf1 hf2
  refine done_ (by kernel_rfl) ?_
  have bk := blk_set (blk_set (blk_set HKd.out.2.2.1 0 (.int .i64 x.f0)) 1 (.int .i64 x.f1)) 2 (.slice A2 x.f2.length c2)
  obtain ⟨W3, hW3⟩ : ∃ y, y = ((Wd.setCell ⟨gs, 0, none⟩ (.int .i64 x.f0)).setCell ⟨gs, 1, none⟩ (.int .i64 x.f1)).setCell ⟨gs, 2, none⟩ (.slice A2 x.f2.length c2) := ⟨_, rfl⟩
  rw [← hW3] at bk ⊢
  have hg1 : Wd.grownBy W3 (some gs) := by
    rw [hW3]
    exact ⟨rfl, rfl, rfl, by simp, fun k _ hn => by
      have hk : k ≠ gs := fun e => hn (by rw [e])
      exact (Below.heap_setCell _ ⟨gs, 2, none⟩ _ k hk).trans ((Below.heap_setCell _ ⟨gs, 1, none⟩ _ k hk).trans (Below.heap_setCell _ ⟨gs, 0, none⟩ _ k hk))⟩
  have hne : gm ≠ gs := fun e => by have h1 := HKd.out.1.c; rw [e, HKd.out.2.2.1] at h1; injection h1 with h1; injection h1 with _ h1; exact absurd h1 (by decide)
  have hle := HLE.out
  have hgs0 : w0.heap.size ≤ gs := HW0.out gs hle
  have HF := Aside0.mk (And.intro (HKd.out.1.grownO hg1 (fun g e => by injection e with e; subst e; exact ⟨hgs0, fun e => hne e.symm⟩)) (And.intro (HKd.out.2.1.grownO hg1 (fun g e => by injection e with e; subst e; exact hle)) (And.intro bk HKd.out.2.2.2)))
  clear hW3 bk hg1 hne HKd
  go_wp2_with fail
  refine bodyPost_ret (results_node (a := 2) (by rfl) _ _ (by rfl) (by simpa using HF.out.2.2.1)) rfl ?_
  rw [hT2.out]
  exact ⟨_, rfl, ⟨A2, c2, rfl, HF.out.2.2.2.1, HF.out.2.2.2.2⟩, HF.out.1, HF.out.2.1⟩
/-- A walk of the maker's geom: the maker, the result's cell, the node, the tree that is made. -/
structure MX (w0 W W' : World) (gm : Nat) (l : List Wn) (A : Option Addr) (c nx : Nat) (gs gn : Nat) (x : Wn) (An : Option Addr) (cn : Nat) (go_ : Nat) (cs : Array Value) : Prop where
  P : Mk w0 W' gm l A c nx
  M : Mp W W' gm
  S : W'.heap[gs]? = some (.cells #[.int .i64 0, .slice none 0 0, .slice none 0 0, .slice none 0 0] 28 (0, 0))
  N : W'.heap[gn]? = some (.cells #[.int .i64 x.f0, .int .i64 x.f1, .slice An x.f2.length cn] 86 (0, 0))
  O : W'.heap[go_]? = some (.cells cs 28 (0, 0))
  h : w0.heap.size ≤ W.heap.size ∧ W.heap.size ≤ gs ∧ gs < go_ ∧ W.heap.size ≤ gn ∧ gn < go_ ∧ gm < W.heap.size
section
variable {w0 W W' W2 : World} {gm : Nat} {l : List Wn} {A : Option Addr} {c nx nx' : Nat} {gs gn : Nat} {x : Wn} {An : Option Addr} {cn : Nat} {go_ : Nat} {cs : Array Value}
theorem MX.step (h : MX w0 W W' gm l A c nx gs gn x An cn go_ cs) (hp : Mk w0 W2 gm l A c nx') (hv : Mp W' W2 gm) : MX w0 W W2 gm l A c nx' gs gn x An cn go_ cs :=
  ⟨hp, h.M.trans hv, h.P.keepB hv h.S (by decide), h.P.keepB hv h.N (by decide), h.P.keepB hv h.O (by decide), h.h⟩
theorem MX.below (h : MX w0 W W' gm l A c nx gs gn x An cn go_ cs) (hb : Below W'.heap.size W' W2) : MX w0 W W2 gm l A c nx gs gn x An cn go_ cs := h.step (h.P.below hb) (Mp.below gm hb)
theorem MX.grownO {row : Option Nat} (h : MX w0 W W' gm l A c nx gs gn x An cn go_ cs) (hg : W'.grownBy W2 row) (hr : ∀ g, row = some g → go_ < g) : MX w0 W W2 gm l A c nx gs gn x An cn go_ cs := by
  have hh := h.h
  exact ⟨h.P.grownO hg (fun g e => by have := hr g e; omega), h.M.grownO hg (fun g e => by have := hr g e; omega), blk_grown h.S hg (fun e => by have := hr gs e.symm; omega), blk_grown h.N hg (fun e => by have := hr gn e.symm; omega), blk_grown h.O hg (fun e => by have := hr go_ e.symm; omega), h.h⟩
theorem MX.set (h : MX w0 W W' gm l A c nx gs gn x An cn go_ cs) (i : Nat) (u : Value) : MX w0 W (W'.setCell ⟨go_, i, none⟩ u) gm l A c nx gs gn x An cn go_ (cs.setIfInBounds i u) := by
  have hh := h.h
  have hg := grown_set W' go_ i u
  exact ⟨h.P.grownO hg (fun g e => by injection e with e; subst e; omega), h.M.grownO hg (fun g e => by injection e with e; omega), blk_far h.S (p := ⟨go_, i, none⟩) (by show gs ≠ go_; omega) _, blk_far h.N (p := ⟨go_, i, none⟩) (by show gn ≠ go_; omega) _, blk_set h.O i u, h.h⟩
/-- The result is stored: the four cells of the answer. -/
theorem MX.done (h : MX w0 W W' gm l A c nx gs gn x An cn go_ cs) (u0 u1 u2 u3 : Value) :
    Mk w0 ((((W'.setCell ⟨gs, 0, none⟩ u0).setCell ⟨gs, 1, none⟩ u1).setCell ⟨gs, 2, none⟩ u2).setCell ⟨gs, 3, none⟩ u3) gm l A c nx ∧ Mp W ((((W'.setCell ⟨gs, 0, none⟩ u0).setCell ⟨gs, 1, none⟩ u1).setCell ⟨gs, 2, none⟩ u2).setCell ⟨gs, 3, none⟩ u3) gm := by
  have hh := h.h
  have one : ∀ (w2 : World) (i : Nat) (u : Value), Mk w0 w2 gm l A c nx ∧ Mp W w2 gm → Mk w0 (w2.setCell ⟨gs, i, none⟩ u) gm l A c nx ∧ Mp W (w2.setCell ⟨gs, i, none⟩ u) gm := by
    intro w2 i u hp
    have hg := grown_set w2 gs i u
    exact ⟨hp.1.grownO hg (fun g e => by injection e with e; subst e; omega), hp.2.grownO hg (fun g e => by injection e with e; omega)⟩
  exact one _ 3 u3 (one _ 2 u2 (one _ 1 u1 (one _ 0 u0 ⟨h.P, h.M⟩)))
/-- What is stored is a copy. -/
theorem MX.copy {n : Nat} {k : Int} {v1 v2 v3 u0 u1 u2 u3 : Value} {l1 : List Pt} {l2 : List (List Pt)} {l3 : List Ge} {ok1 ok2 ok3 : Nat → Prop} (h : MX w0 W W' gm l A c nx gs gn x An cn go_ cs)
    (a1 : ∀ k, ok1 k → go_ < k) (a2 : ∀ k, ok2 k → go_ < k) (a3 : ∀ k, ok3 k → go_ < k) (d12 : ∀ k, ok1 k → ¬ ok2 k) (d13 : ∀ k, ok1 k → ¬ ok3 k) (d23 : ∀ k, ok2 k → ¬ ok3 k)
    (h1 : kPt.R 65 W' W.heap.size ok1 v1 l1) (h2 : Kd.S (Kd.slice 65 kPt) 24 W' W.heap.size ok2 v2 l2) (h3 : Kd.S (kSp n) 28 W' W.heap.size ok3 v3 l3) :
    CopyOf (n + 1) W ((((W'.setCell ⟨gs, 0, none⟩ u0).setCell ⟨gs, 1, none⟩ u1).setCell ⟨gs, 2, none⟩ u2).setCell ⟨gs, 3, none⟩ u3) (.agg #[.int .i64 k, v1, v2, v3]) ⟨k, l1, l2, l3⟩ := by
  have hh := h.h
  refine ⟨[.int .i64 k, v1, v2, v3], rfl, ?_⟩
  rw [kSp_M]
  exact ⟨v1, v2, v3, ok1, ok2, ok3, rfl, fun k h => by have := a1 k h; omega, fun k h => by have := a2 k h; omega, fun k h => by have := a3 k h; omega, d12, d13, d23,
    Kd.R_far (p := ⟨gs, 3, none⟩) (Kd.R_far (p := ⟨gs, 2, none⟩) (Kd.R_far (p := ⟨gs, 1, none⟩) (Kd.R_far (p := ⟨gs, 0, none⟩) h1 (fun k h => by have := a1 k h; show k ≠ gs; omega) _) (fun k h => by have := a1 k h; show k ≠ gs; omega) _) (fun k h => by have := a1 k h; show k ≠ gs; omega) _) (fun k h => by have := a1 k h; show k ≠ gs; omega) _,
    Kd.S_far (p := ⟨gs, 3, none⟩) (Kd.S_far (p := ⟨gs, 2, none⟩) (Kd.S_far (p := ⟨gs, 1, none⟩) (Kd.S_far (p := ⟨gs, 0, none⟩) h2 (fun k h => by have := a2 k h; show k ≠ gs; omega) _) (fun k h => by have := a2 k h; show k ≠ gs; omega) _) (fun k h => by have := a2 k h; show k ≠ gs; omega) _) (fun k h => by have := a2 k h; show k ≠ gs; omega) _,
    Kd.S_far (p := ⟨gs, 3, none⟩) (Kd.S_far (p := ⟨gs, 2, none⟩) (Kd.S_far (p := ⟨gs, 1, none⟩) (Kd.S_far (p := ⟨gs, 0, none⟩) h3 (fun k h => by have := a3 k h; show k ≠ gs; omega) _) (fun k h => by have := a3 k h; show k ≠ gs; omega) _) (fun k h => by have := a3 k h; show k ≠ gs; omega) _) (fun k h => by have := a3 k h; show k ≠ gs; omega) _⟩
end
/-- Before the tree is begun. -/
def MY (w0 W W' : World) (gm : Nat) (l : List Wn) (A : Option Addr) (c nx : Nat) (gs gn : Nat) (x : Wn) (An : Option Addr) (cn : Nat) : Prop :=
  Mk w0 W' gm l A c nx ∧ Mp W W' gm ∧ W'.heap[gs]? = some (.cells #[.int .i64 0, .slice none 0 0, .slice none 0 0, .slice none 0 0] 28 (0, 0)) ∧ W'.heap[gn]? = some (.cells #[.int .i64 x.f0, .int .i64 x.f1, .slice An x.f2.length cn] 86 (0, 0))
theorem MY.below {w0 W W' W2 : World} {gm : Nat} {l : List Wn} {A : Option Addr} {c nx : Nat} {gs gn : Nat} {x : Wn} {An : Option Addr} {cn : Nat} (h : MY w0 W W' gm l A c nx gs gn x An cn) (hb : Below W'.heap.size W' W2) : MY w0 W W2 gm l A c nx gs gn x An cn :=
  ⟨h.1.below hb, h.2.1.trans (Mp.below gm hb), blk_below h.2.2.1 hb, blk_below h.2.2.2 hb⟩
set_option maxRecDepth 100000 in
set_option maxHeartbeats 32000000 in
theorem mgeom_calls (n : Nat) : ∀ (w0 W : World) (gm : Nat) (l : List Wn) (A : Option Addr) (c nx : Nat) (kind levels : Int), Mk w0 W gm l A c nx → l.length ≤ 1048576 → (∀ x ∈ l, x.f2.length ≤ 1048576) → 1 ≤ n → levels ≤ n → -1000 ≤ levels → levels ≤ 1000 → 0 ≤ kind ∧ kind ≤ 7 →
    Calls Try.prog 19 #[.pointer (some ⟨gm, 0, none⟩), .int .i64 kind, .int .i64 levels] W fun e W' => ∃ u, e = .returned u ∧ CopyOf n W W' u (mkG l n nx kind levels).1 ∧ Mk w0 W' gm l A c (mkG l n nx kind levels).2 ∧ Mp W W' gm := by
  induction n with
  | zero => intro w0 W gm l A c nx kind levels _ _ _ h; omega
  | succ n ih =>
  intro w0 W gm l A c nx kind levels hM hl hxl hn1 hn hlv0 hlv1 hk
  have hgm := blk_lt hM.c
  have HW0 := Aside0.mk (show w0.heap.size ≤ W.heap.size from hM.K.size)
  have HM := Aside0.mk hM
  have IH := Aside0.mk ih
  have HN := Aside0.mk hn
  clear hM ih hn
  have hu := Try.underlying28
  have hun := Try.underlying86
  have hmx : Try.prog.follows .mixedOrders = true := by kernel_rfl
  obtain ⟨R, hR⟩ : ∃ R, R = mkG l (n + 1) nx kind levels := ⟨_, rfl⟩
  have HG := Aside0.mk hR
  rw [← hR]
  clear hR
  unfold mkG at HG
  obtain ⟨x, hx⟩ : ∃ y, y = (takeM l nx).1 := ⟨_, rfl⟩
  rw [← hx] at HG
  obtain ⟨nx1, hnx1⟩ : ∃ y, y = (takeM l nx).2 := ⟨_, rfl⟩
  rw [← hnx1] at HG
  have hxy : x.f2.length ≤ 1048576 := by
    rw [hx]
    unfold takeM
    split
    · exact Nat.zero_le _
    · rename_i h9
      refine hxl _ ?_
      rw [rd_Wn, Int.toNat_natCast, List.getD_eq_getElem?_getD, List.getElem?_eq_getElem (by omega)]
      exact List.getElem_mem _
  have HXN := Aside0.mk (And.intro hx hnx1)
  clear hx hnx1
  go_enter Try.func19, Try.ntmps19
  go_upto_region 1 with fail
  obtain ⟨gs, hgs⟩ : ∃ y, y = W.heap.size := ⟨_, rfl⟩
  obtain ⟨W0, hW0⟩ : ∃ y, y = W.alloc (.cells #[.int .i64 0, .slice none 0 0, .slice none 0 0, .slice none 0 0] 28) := ⟨_, rfl⟩
  rw [← hW0, ← hgs]
  have hb0 : Below W.heap.size W W0 := by rw [hW0]; exact below_alloc (Below.refl _ _) _
  have H0 := Aside0.mk (And.intro (HM.out.below hb0) (And.intro (Mp.below gm hb0) (show W0.heap[gs]? = some (.cells #[.int .i64 0, .slice none 0 0, .slice none 0 0, .slice none 0 0] 28 (0, 0)) by rw [hW0, hgs]; exact World.alloc_heap_new _ _)))
  have HGS := Aside0.mk (show W.heap.size ≤ gs by omega)
  clear hW0 hgs hb0 HM
  go_wp2_with fail
  refine (take_calls w0 W0 gm l A c nx H0.out.1 hl).mono ?_
  rintro e W1 ⟨u, rfl, ⟨An, cn, rfl, hln, hcn⟩, hk1, hv1⟩
  rw [← HXN.out.1] at hln hcn ⊢
  rw [← HXN.out.2] at hk1
  have HC := Aside0.mk (And.intro hln hcn)
  have H1 := Aside0.mk (And.intro hk1 (And.intro (H0.out.2.1.trans hv1) (H0.out.1.keepB hv1 H0.out.2.2 (by decide))))
  clear hk1 hv1 hln hcn H0 HXN
  go_upto_region 2 with fail
  obtain ⟨gn, hgn⟩ : ∃ y, y = W1.heap.size := ⟨_, rfl⟩
  obtain ⟨W2, hW2⟩ : ∃ y, y = W1.alloc (.cells #[.int .i64 x.f0, .int .i64 x.f1, .slice An x.f2.length cn] 86) := ⟨_, rfl⟩
  rw [← hW2, ← hgn]
  have hb2 : Below W1.heap.size W1 W2 := by rw [hW2]; exact below_alloc (Below.refl _ _) _
  have hY : MY w0 W W2 gm l A c nx1 gs gn x An cn := ⟨H1.out.1.below hb2, H1.out.2.1.trans (Mp.below gm hb2), blk_below H1.out.2.2 hb2, by rw [hW2, hgn]; exact World.alloc_heap_new _ _⟩
  have HY := Aside0.mk hY
  have HGN := Aside0.mk (show W.heap.size ≤ gn by have := H1.out.2.1.s; omega)
  clear hW2 hgn hb2 hY H1
  obtain ⟨k1, hk1⟩ : ∃ y, y = (if kind = 0 then 1 + intoN x.f0 7 else kind) := ⟨_, rfl⟩
  have HK1 := Aside0.mk hk1
  have hr7 := intoN_range x.f0 7 (by decide)
  have hk1r : 0 ≤ k1 ∧ k1 ≤ 7 := by rw [hk1]; split <;> omega
  clear hr7 hk1
  go_upto_if 16 with fail
  go_cut [1] from 17 to 20 (fun v wx => v = .int .i64 k1 ∧ MY w0 W wx gm l A c nx1 gs gn x An cn)
  case first =>
    by_cases k0 : kind = 0
    · have n0 : W2.cell? ⟨gn, 0, none⟩ = some (.int .i64 x.f0) := (blk_cell HY.out.2.2.2 0).trans rfl
      have hr7 := intoN_range x.f0 7 (by decide)
      have he : k1 = 1 + intoN x.f0 7 := by rw [HK1.out, if_pos k0]
      subst k0
      go_wp2_with fail
      refine (intoM_calls x.f0 7 (by decide) (by decide) W2).mono ?_
      rintro e W3 ⟨rfl, hb3⟩
      obtain ⟨i7, hi7⟩ : ∃ y, y = intoN x.f0 7 := ⟨_, rfl⟩
      rw [← hi7] at hr7 ⊢
      have hw7 : wrap64 (1 + i7) = 1 + i7 := by unfold wrap64; omega
      go_wp2_with fail
      go_meet
      exact ⟨by rw [he], HY.out.below hb3⟩
    · have k0b : (kind == 0) = false := beq_eq_false_iff_ne.mpr k0
      have he : k1 = kind := by rw [HK1.out, if_neg k0]
      go_wp2_with fail
      go_meet
      exact ⟨by rw [he], HY.out⟩
  case rest =>
  obtain ⟨rfl, hY⟩ := hcut
  have HY3 := Aside0.mk hY
  clear hY HY
  obtain ⟨k, hk_⟩ : ∃ y, y = kindM x kind levels := ⟨_, rfl⟩
  have hkm : k = if levels < 2 ∧ 3 < k1 then 1 else k1 := by rw [hk_, HK1.out]; rfl
  have HKM := Aside0.mk (And.intro hk_ (kindM_range x kind levels hk))
  rw [← hk_] at HG
  clear hk_
  go_upto_region 4 with fail
  go_cut [26] from 21 to 25 (fun v wx => v = .bool (decide (levels < 2 ∧ 3 < k1)) ∧ wx = wc)
  case first =>
    by_cases c1 : levels < 2
    · by_cases c2 : 3 < k1
      · have hd : decide (levels < 2 ∧ 3 < k1) = true := decide_eq_true ⟨c1, c2⟩
        go_wp2_with fail
        go_meet
        exact ⟨by rw [hd], rfl⟩
      · have hd : decide (levels < 2 ∧ 3 < k1) = false := decide_eq_false (fun h => c2 h.2)
        go_wp2_with fail
        go_meet
        exact ⟨by rw [hd], rfl⟩
    · have hd : decide (levels < 2 ∧ 3 < k1) = false := decide_eq_false (fun h => c1 h.1)
      go_wp2_with fail
      go_meet
      exact ⟨by rw [hd], rfl⟩
  case rest =>
  obtain ⟨rfl, rfl⟩ := hcut
  go_upto_if 26 with fail
  go_cut [1] (fun v wx => v = .int .i64 k ∧ wx = wc)
  case first =>
    by_cases c1 : levels < 2 ∧ 3 < k1
    · rw [if_pos c1] at hkm
      go_wp2_with fail
      go_meet
      exact ⟨by rw [hkm], rfl⟩
    · rw [if_neg c1] at hkm
      go_wp2_with fail
      go_meet
      exact ⟨by rw [hkm], rfl⟩
  case rest =>
  obtain ⟨rfl, rfl⟩ := hcut
  clear hkm
  have n1 : wc.cell? ⟨gn, 1, none⟩ = some (.int .i64 x.f1) := (blk_cell HY3.out.2.2.2 1).trans rfl
  go_upto_region 7 with fail
  refine (intoM_calls x.f1 5 (by decide) (by decide) wc).mono ?_
  rintro e W4 ⟨rfl, hb4⟩
  have hm5 := manyM_lt x
  obtain ⟨m, hm⟩ : ∃ y, y = manyM x := ⟨_, rfl⟩
  rw [← hm] at hm5 HG
  rw [← hm5.2]
  have hm4 := hm5.1
  have HY4 := Aside0.mk (HY3.out.below hb4)
  clear hb4 HY3 n1 hm5 hm
  go_upto_region 8 with fail
  obtain ⟨go_, hgo⟩ : ∃ y, y = W4.heap.size := ⟨_, rfl⟩
  obtain ⟨W7, hW7⟩ : ∃ y, y = W4.alloc (.cells #[.int .i64 k, .slice none 0 0, .slice none 0 0, .slice none 0 0] 28) := ⟨_, rfl⟩
  rw [← hW7, ← hgo]
  have RX := Aside0.mk (show MX w0 W W7 gm l A c nx1 gs gn x An cn go_ #[.int .i64 k, .slice none 0 0, .slice none 0 0, .slice none 0 0] by
    have hb7 : Below W4.heap.size W4 W7 := by rw [hW7]; exact below_alloc (Below.refl _ _) _
    have h7 := HY4.out.below hb7
    have hlt := blk_lt HY4.out.2.2.1
    have hlt2 := blk_lt HY4.out.2.2.2
    exact ⟨h7.1, h7.2.1, h7.2.2.1, h7.2.2.2, by rw [hW7, hgo]; exact World.alloc_heap_new _ _, HW0.out, HGS.out, by omega, HGN.out, by omega, hgm⟩)
  clear hW7 hgo HY4
  have n0_ : W7.cell? ⟨gn, 0, none⟩ = some (.int .i64 x.f0) := (blk_cell RX.out.N 0).trans rfl
  have n1_ : W7.cell? ⟨gn, 1, none⟩ = some (.int .i64 x.f1) := (blk_cell RX.out.N 1).trans rfl
  have n2_ : W7.cell? ⟨gn, 2, none⟩ = some (.slice An x.f2.length cn) := (blk_cell RX.out.N 2).trans rfl
  have hkr := HKM.out.2
  rw [← HKM.out.1] at hkr
  by_cases k1 : k = 1
  · rw [if_pos k1] at HG
    have k1a : (k == 1) = true := beq_iff_eq.mpr k1
    have HKE := Aside0.mk k1
    clear k1
    go_wp2_with fail
    rw [show (m : Int) % 2 = ((m % 2 : Nat) : Int) from by omega]
    refine (pointsM_calls x An cn (m % 2) W7 (Kd.C_below HC.out.2 RX.out.P.K) HC.out.1 (by omega) (by omega)).mono ?_
    rintro e W8 ⟨u, rfl, hRu, hb8⟩
    clear n0_ n1_ n2_
    obtain ⟨pl, hpl⟩ : ∃ y, y = ptsM x.f2 (m % 2) := ⟨_, rfl⟩
    rw [← hpl] at hRu HG
    obtain ⟨A8, c8, e8⟩ := Kd.R_slice hRu
    subst e8
    have rx := RX.out.below hb8
    have hs1 : W8.cell? ⟨go_, 1, none⟩ = some (.slice none 0 0) := (blk_cell rx.O 1).trans rfl
    have hf1 := blk_frozen rx.O 1
    have RX8 := Aside0.mk (And.intro rx hRu)
    have HSZ := Aside0.mk (show go_ < W7.heap.size from blk_lt RX.out.O)
    clear rx hRu hb8 RX hpl
    go_upto_region 25 with fail
    obtain ⟨v8, hv8⟩ : ∃ v, v = Value.slice A8 pl.length c8 := ⟨_, rfl⟩
    rw [← hv8] at RX8 ⊢
    obtain ⟨W9, hW9⟩ : ∃ y, y = W8.setCell ⟨go_, 1, none⟩ v8 := ⟨_, rfl⟩
    rw [← hW9]
    have RX9 := Aside0.mk (show MX w0 W W9 gm l A c nx1 gs gn x An cn go_ #[.int .i64 k, v8, .slice none 0 0, .slice none 0 0] by rw [hW9]; simpa using RX8.out.1.set 1 v8)
    have HL := Aside0.mk (show kPt.R 65 W9 W.heap.size (fun k => go_ < k) v8 pl by
      have hz := HSZ.out
      have hq := RX8.out.1.h
      rw [hW9]
      exact Kd.R_far (p := ⟨go_, 1, none⟩) (Kd.R_lower (Kd.R_mono (Kd.R_bound RX8.out.2) (fun k h => by have := h.2.1; omega)) (by omega)) (fun k h => by show k ≠ go_; omega) _)
    have HG2 := Aside0.mk (show R = (⟨k, pl, [], []⟩, nx1) by rw [HG.out, HKE.out])
    clear hW9 RX8 hs1 hf1
    subst hv8
    have rz_ := RX9.out
    have r0 : W9.cell? ⟨gs, 0, none⟩ = some (.int .i64 0) := (blk_cell rz_.S 0).trans rfl
    have t0 := blk_frozen rz_.S 0
    have r1 : W9.cell? ⟨gs, 1, none⟩ = some (.slice none 0 0) := (blk_cell rz_.S 1).trans rfl
    have t1 := blk_frozen rz_.S 1
    have r2 : W9.cell? ⟨gs, 2, none⟩ = some (.slice none 0 0) := (blk_cell rz_.S 2).trans rfl
    have t2 := blk_frozen rz_.S 2
    have r3 : W9.cell? ⟨gs, 3, none⟩ = some (.slice none 0 0) := (blk_cell rz_.S 3).trans rfl
    have t3 := blk_frozen rz_.S 3
    have o0 : W9.cell? ⟨go_, 0, none⟩ = some (.int .i64 k) := (blk_cell rz_.O 0).trans rfl
    have o1 : W9.cell? ⟨go_, 1, none⟩ = some (.slice A8 pl.length c8) := (blk_cell rz_.O 1).trans rfl
    have o2 : W9.cell? ⟨go_, 2, none⟩ = some (.slice none 0 0) := (blk_cell rz_.O 2).trans rfl
    have o3 : W9.cell? ⟨go_, 3, none⟩ = some (.slice none 0 0) := (blk_cell rz_.O 3).trans rfl
    have RZ := Aside0.mk rz_
    clear rz_
    go_wp2_with fail
    have bk := (blk_set (blk_set (blk_set (blk_set RZ.out.S 0 (.int .i64 k)) 1 (.slice A8 pl.length c8)) 2 (.slice none 0 0)) 3 (.slice none 0 0))
    refine bodyPost_ret (results_geom (a := 6) (by rfl) _ _ (by rfl) (by simpa using bk)) rfl ?_
    have dn_ := RZ.out.done (.int .i64 k) (.slice A8 pl.length c8) (.slice none 0 0) (.slice none 0 0)
    rw [HG2.out]
    exact ⟨_, rfl, RZ.out.copy (ok1 := fun k => go_ < k) (ok2 := fun _ => False) (ok3 := fun _ => False) (fun _ h => h) (fun _ h => h.elim) (fun _ h => h.elim) (fun _ _ h => h) (fun _ _ h => h) (fun _ h => h.elim) HL.out (Kd.S_nil _ _ _ _ _) (Kd.S_nil _ _ _ _ _), dn_.1, dn_.2⟩
  have k1a : (k == 1) = false := beq_eq_false_iff_ne.mpr k1
  rw [if_neg k1] at HG
  by_cases k2 : k = 2
  · rw [if_pos k2] at HG
    have k2a : (k == 2) = true := beq_iff_eq.mpr k2
    have HKE := Aside0.mk k2
    clear k1 k2
    go_wp2_with fail
    refine (pointsM_calls x An cn m W7 (Kd.C_below HC.out.2 RX.out.P.K) HC.out.1 (by omega) (by omega)).mono ?_
    rintro e W8 ⟨u, rfl, hRu, hb8⟩
    clear n0_ n1_ n2_
    obtain ⟨pl, hpl⟩ : ∃ y, y = ptsM x.f2 m := ⟨_, rfl⟩
    rw [← hpl] at hRu HG
    obtain ⟨A8, c8, e8⟩ := Kd.R_slice hRu
    subst e8
    have rx := RX.out.below hb8
    have hs1 : W8.cell? ⟨go_, 1, none⟩ = some (.slice none 0 0) := (blk_cell rx.O 1).trans rfl
    have hf1 := blk_frozen rx.O 1
    have RX8 := Aside0.mk (And.intro rx hRu)
    have HSZ := Aside0.mk (show go_ < W7.heap.size from blk_lt RX.out.O)
    clear rx hRu hb8 RX hpl
    go_upto_region 25 with fail
    obtain ⟨v8, hv8⟩ : ∃ v, v = Value.slice A8 pl.length c8 := ⟨_, rfl⟩
    rw [← hv8] at RX8 ⊢
    obtain ⟨W9, hW9⟩ : ∃ y, y = W8.setCell ⟨go_, 1, none⟩ v8 := ⟨_, rfl⟩
    rw [← hW9]
    have RX9 := Aside0.mk (show MX w0 W W9 gm l A c nx1 gs gn x An cn go_ #[.int .i64 k, v8, .slice none 0 0, .slice none 0 0] by rw [hW9]; simpa using RX8.out.1.set 1 v8)
    have HL := Aside0.mk (show kPt.R 65 W9 W.heap.size (fun k => go_ < k) v8 pl by
      have hz := HSZ.out
      have hq := RX8.out.1.h
      rw [hW9]
      exact Kd.R_far (p := ⟨go_, 1, none⟩) (Kd.R_lower (Kd.R_mono (Kd.R_bound RX8.out.2) (fun k h => by have := h.2.1; omega)) (by omega)) (fun k h => by show k ≠ go_; omega) _)
    have HG2 := Aside0.mk (show R = (⟨k, pl, [], []⟩, nx1) by rw [HG.out, HKE.out])
    clear hW9 RX8 hs1 hf1
    subst hv8
    have rz_ := RX9.out
    have r0 : W9.cell? ⟨gs, 0, none⟩ = some (.int .i64 0) := (blk_cell rz_.S 0).trans rfl
    have t0 := blk_frozen rz_.S 0
    have r1 : W9.cell? ⟨gs, 1, none⟩ = some (.slice none 0 0) := (blk_cell rz_.S 1).trans rfl
    have t1 := blk_frozen rz_.S 1
    have r2 : W9.cell? ⟨gs, 2, none⟩ = some (.slice none 0 0) := (blk_cell rz_.S 2).trans rfl
    have t2 := blk_frozen rz_.S 2
    have r3 : W9.cell? ⟨gs, 3, none⟩ = some (.slice none 0 0) := (blk_cell rz_.S 3).trans rfl
    have t3 := blk_frozen rz_.S 3
    have o0 : W9.cell? ⟨go_, 0, none⟩ = some (.int .i64 k) := (blk_cell rz_.O 0).trans rfl
    have o1 : W9.cell? ⟨go_, 1, none⟩ = some (.slice A8 pl.length c8) := (blk_cell rz_.O 1).trans rfl
    have o2 : W9.cell? ⟨go_, 2, none⟩ = some (.slice none 0 0) := (blk_cell rz_.O 2).trans rfl
    have o3 : W9.cell? ⟨go_, 3, none⟩ = some (.slice none 0 0) := (blk_cell rz_.O 3).trans rfl
    have RZ := Aside0.mk rz_
    clear rz_
    go_wp2_with fail
    have bk := (blk_set (blk_set (blk_set (blk_set RZ.out.S 0 (.int .i64 k)) 1 (.slice A8 pl.length c8)) 2 (.slice none 0 0)) 3 (.slice none 0 0))
    refine bodyPost_ret (results_geom (a := 6) (by rfl) _ _ (by rfl) (by simpa using bk)) rfl ?_
    have dn_ := RZ.out.done (.int .i64 k) (.slice A8 pl.length c8) (.slice none 0 0) (.slice none 0 0)
    rw [HG2.out]
    exact ⟨_, rfl, RZ.out.copy (ok1 := fun k => go_ < k) (ok2 := fun _ => False) (ok3 := fun _ => False) (fun _ h => h) (fun _ h => h.elim) (fun _ h => h.elim) (fun _ _ h => h) (fun _ _ h => h) (fun _ h => h.elim) HL.out (Kd.S_nil _ _ _ _ _) (Kd.S_nil _ _ _ _ _), dn_.1, dn_.2⟩
  have k2a : (k == 2) = false := beq_eq_false_iff_ne.mpr k2
  rw [if_neg k2] at HG
  clear n0_ n1_ n2_
  by_cases k3 : k = 3
  · rw [if_pos k3] at HG
    have k3a : (k == 3) = true := beq_iff_eq.mpr k3
    have HKE := Aside0.mk k3
    clear k1 k2 k3
    go_wp2_with fail
    go_loopg [10] m (fun kq i wr => ∃ (j : Nat) (v2 : Value) (dn : List (List Pt)), j + kq = m ∧ i = .int .i64 (j : Int) ∧ Aside0 (dn = (List.range j).map (fun i => ptsM x.f2 (1 + i))) ∧ Aside0 (MX w0 W wr gm l A c nx1 gs gn x An cn go_ #[.int .i64 k, .slice none 0 0, v2, .slice none 0 0]) ∧ Aside0 (Kd.S (Kd.slice 65 kPt) 24 wr W.heap.size (fun k => go_ < k) v2 dn) ∧ Aside0 (dn.length = j))
    case atStart => exact ⟨0, _, [], by omega, rfl, ⟨rfl⟩, RX, ⟨Kd.S_nil _ _ _ _ _⟩, ⟨rfl⟩⟩
    case round =>
      clear RX
      obtain ⟨j, v2, dn, hj, rfl, HRR, RX, HS, HJ⟩ := hrel
      cases gk with
      | zero =>
        have hlt : ¬ ((j : Int) < (m : Int)) := by omega
        have hjm : j = m := by omega
        have HG2 := Aside0.mk (show R = (⟨k, [], dn, []⟩, nx1) by rw [HG.out, HRR.out, HKE.out, hjm])
        clear hjm
        go_upto_region 25 with fail
        obtain ⟨A8, c8, e8⟩ := Kd.S_slice HS.out
        subst e8
        have rz_ := RX.out
        have r0 : wr.cell? ⟨gs, 0, none⟩ = some (.int .i64 0) := (blk_cell rz_.S 0).trans rfl
        have t0 := blk_frozen rz_.S 0
        have r1 : wr.cell? ⟨gs, 1, none⟩ = some (.slice none 0 0) := (blk_cell rz_.S 1).trans rfl
        have t1 := blk_frozen rz_.S 1
        have r2 : wr.cell? ⟨gs, 2, none⟩ = some (.slice none 0 0) := (blk_cell rz_.S 2).trans rfl
        have t2 := blk_frozen rz_.S 2
        have r3 : wr.cell? ⟨gs, 3, none⟩ = some (.slice none 0 0) := (blk_cell rz_.S 3).trans rfl
        have t3 := blk_frozen rz_.S 3
        have o0 : wr.cell? ⟨go_, 0, none⟩ = some (.int .i64 k) := (blk_cell rz_.O 0).trans rfl
        have o1 : wr.cell? ⟨go_, 1, none⟩ = some (.slice none 0 0) := (blk_cell rz_.O 1).trans rfl
        have o2 : wr.cell? ⟨go_, 2, none⟩ = some (.slice A8 dn.length c8) := (blk_cell rz_.O 2).trans rfl
        have o3 : wr.cell? ⟨go_, 3, none⟩ = some (.slice none 0 0) := (blk_cell rz_.O 3).trans rfl
        have RZ := Aside0.mk rz_
        clear rz_
        go_wp2_with fail
        have bk := (blk_set (blk_set (blk_set (blk_set RZ.out.S 0 (.int .i64 k)) 1 (.slice none 0 0)) 2 (.slice A8 dn.length c8)) 3 (.slice none 0 0))
        refine bodyPost_ret (results_geom (a := 6) (by rfl) _ _ (by rfl) (by simpa using bk)) rfl ?_
        have dn_ := RZ.out.done (.int .i64 k) (.slice none 0 0) (.slice A8 dn.length c8) (.slice none 0 0)
        rw [HG2.out]
        exact ⟨_, rfl, RZ.out.copy (ok1 := fun _ => False) (ok2 := fun k => go_ < k) (ok3 := fun _ => False) (fun _ h => h.elim) (fun _ h => h) (fun _ h => h.elim) (fun _ h => h.elim) (fun _ h => h.elim) (fun _ _ h => h) (Kd.R_nil _ _ _ _ _) HS.out (Kd.S_nil _ _ _ _ _), dn_.1, dn_.2⟩
      | succ kq =>
        have hlt : (j : Int) < (m : Int) := by omega
        have hj5 : j < 5 := by omega
        have hwj : IntKind.i64.wrap (1 + (j : Int)) = 1 + (j : Int) := by rw [IntKind.wrap_i64]; omega
        go_upto_region 24 with fail
        have q0 := RX.out.below (below_drew (Below.refl _ _))
        have s0 := Kd.S_drew HS.out
        have hgz : go_ < wr.drew.heap.size := blk_lt q0.O
        refine start_ (n := 10) (S := fun w' => w'.cell? ⟨go_, 2, none⟩ = some v2 ∧ w'.cell? ⟨gn, 0, none⟩ = some (.int .i64 x.f0) ∧ w'.cell? ⟨gn, 1, none⟩ = some (.int .i64 x.f1) ∧ w'.cell? ⟨gn, 2, none⟩ = some (.slice An x.f2.length cn) ∧ True) (ds := [9]) #[false, false, false, false, false, false, false, false, false, false] hmx rfl rfl ⟨(blk_cell q0.O 2).trans rfl, (blk_cell q0.N 0).trans rfl, (blk_cell q0.N 1).trans rfl, (blk_cell q0.N 2).trans rfl, trivial⟩ (fun hHeld => ?_)
        clear RX HS
        generalize wr.drew = Wb at q0 s0 hgz hHeld ⊢
        (refine pure_ (i := 0) (N := some 72) (v := ?_) (a' := ?_) #[true, false, false, false, false, false, false, false, false, false] rfl rfl (by kernel_rfl) (fun _ _ _ h => h) (Or.inl ⟨by rfl, ?_⟩) ?_ ?_; rotate_left; (focus (intro w'_; go_simp; with_reducible rfl)); rotate_left; (focus (simp only [Act.put, List.setIfInBounds_toArray, List.set_cons_zero, List.set_cons_succ]; rfl)))
        (refine pure_ (i := 3) (N := some 75) (v := ?_) (a' := ?_) #[true, false, false, true, false, false, false, false, false, false] rfl rfl (by kernel_rfl) (fun _ _ _ h => h) (Or.inl ⟨by rfl, ?_⟩) ?_ ?_; rotate_left; (focus (intro w'_; go_simp; with_reducible rfl)); rotate_left; (focus (simp only [Act.put, List.setIfInBounds_toArray, List.set_cons_zero, List.set_cons_succ]; rfl)))
        (refine pure_ (i := 4) (N := some 76) (v := ?_) (a' := ?_) #[true, false, false, true, true, false, false, false, false, false] rfl rfl (by kernel_rfl) (fun _ _ _ h => h) (Or.inl ⟨by rfl, ?_⟩) ?_ ?_; rotate_left; (focus (intro w'_; go_simp; with_reducible rfl)); rotate_left; (focus (simp only [Act.put, List.setIfInBounds_toArray, List.set_cons_zero, List.set_cons_succ]; rfl)))
        (refine take_ (i := 1) (N := some 73) (v := ?_) (a' := ?_) #[true, true, false, true, true, false, false, false, false, false] rfl rfl (by kernel_rfl) (fun _ _ _ h => h) (Or.inl ⟨by rfl, ?_⟩) hHeld ?_ ?_; rotate_left; (focus (intro w'_ hs_; (repeat obtain ⟨_, hs_⟩ := hs_); go_simp; with_reducible rfl)); rotate_left; (focus (simp only [Act.put, List.setIfInBounds_toArray, List.set_cons_zero, List.set_cons_succ]; rfl)))
        (refine take_ (i := 2) (N := some 74) (v := ?_) (a' := ?_) #[true, true, true, true, true, false, false, false, false, false] rfl rfl (by kernel_rfl) (fun _ _ _ h => h) (Or.inl ⟨by rfl, ?_⟩) hHeld ?_ ?_; rotate_left; (focus (intro w'_ hs_; (repeat obtain ⟨_, hs_⟩ := hs_); go_simp; with_reducible rfl)); rotate_left; (focus (simp only [Act.put, List.setIfInBounds_toArray, List.set_cons_zero, List.set_cons_succ]; rfl)))
        refine one_ (i := 5) (N := some 77) #[true, true, true, true, true, true, false, false, false, false] rfl rfl (by kernel_rfl) (by decide) (fun K hK => ?_)
        refine goes_ Try.func32 (by kernel_rfl) rfl #[.agg #[.int .i64 x.f0, .int .i64 x.f1, .slice An x.f2.length cn], .int .i64 (1 + (j : Int))] (by rfl) rfl rfl (by (try simp only [List.map_toArray, List.map_cons, List.map_nil]); first | done | rfl) ?_
        have hpc := pointsM_calls x An cn (1 + j) Wb (Kd.C_below HC.out.2 q0.P.K) HC.out.1 (by omega) (by omega)
        rw [show (((1 + j : Nat)) : Int) = 1 + (j : Int) from by omega] at hpc
        refine hpc.mono ?_
        rintro e w1 ⟨u, rfl, hRu, hb1⟩
        have nx1_ := q0.below hb1
        have s3' := q0.P.keepS (Mp.below gm hb1) s0 (by decide)
        have hvlt := Kd.S_lt s0
        have hz1 : Wb.heap.size ≤ w1.heap.size := hb1.size
        obtain ⟨pl, hpl⟩ : ∃ y, y = ptsM x.f2 (1 + j) := ⟨_, rfl⟩
        rw [← hpl] at hRu
        obtain ⟨A5, c5, e5⟩ := Kd.R_slice hRu
        subst e5
        have HR2 := Aside0.mk (show dn ++ [pl] = (List.range (j + 1)).map (fun i => ptsM x.f2 (1 + i)) by
          rw [HRR.out, List.range_succ, List.map_append, hpl]
          rfl)
        clear q0 s0 hpc hb1 hpl
        refine ⟨_, rfl, hK.out _ _ ⟨(blk_cell nx1_.O 2).trans rfl, (blk_cell nx1_.N 0).trans rfl, (blk_cell nx1_.N 1).trans rfl, (blk_cell nx1_.N 2).trans rfl, trivial⟩ (fun hHeld2 => ?_)⟩
        clear hK K hHeld
        (refine norm_ (a' := ?_) ?_ ?_; rotate_left; focus (show Act.put _ (some 77) _ = _; simp only [Act.put, List.setIfInBounds_toArray, List.set_cons_zero, List.set_cons_succ]; rfl))
        refine one_ (i := 6) (N := some 78) #[true, true, true, true, true, true, true, false, false, false] rfl rfl (by kernel_rfl) (by decide) (fun K hK => ?_)
        (refine value_ (w1 := ?_) (v := ?_) (by rfl) rfl ?_ ?_; rotate_left 2; (focus (go_simp; constructor <;> rfl)))
        have nxa := nx1_.below (below_alloc (Below.refl _ w1) (.cells #[.slice A5 pl.length c5] 24))
        refine hK.out _ _ ⟨(blk_cell nxa.O 2).trans rfl, (blk_cell nxa.N 0).trans rfl, (blk_cell nxa.N 1).trans rfl, (blk_cell nxa.N 2).trans rfl, trivial⟩ (fun hHeld => ?_)
        clear hK K hHeld2 nxa
        (refine norm_ (a' := ?_) ?_ ?_; rotate_left; focus (show Act.put _ (some 78) _ = _; simp only [Act.put, List.setIfInBounds_toArray, List.set_cons_zero, List.set_cons_succ]; rfl))
        refine one_ (i := 7) (N := some 79) #[true, true, true, true, true, true, true, true, false, false] rfl rfl (by kernel_rfl) (by decide) (fun K hK => ?_)
        have hord := nx1_.h
        refine Kd.S_append_step (Kd.slice 65 kPt) (w0 := w1) W.heap.size (by rfl) (.tmp 73) (.tmp 78) 25 24 (.slice none 0 0) 24 rfl Try.underlying25 infoPts rfl (by decide) (by omega) v2 dn pl [.slice A5 pl.length c5] (fun k => go_ < k) (fun k => Wb.heap.size ≤ k) rfl rfl ?aP ?aK ?aF ?aO ?aB ?aS ?aL ?_
        case aP => exact Kd.M_row (Kd.R_lower (Kd.R_mono (Kd.R_bound hRu) (fun k h => h.2.1)) (by omega))
        case aK => exact fun k h => ⟨by omega, fun e => by have := hvlt k e.symm; omega⟩
        case aF => exact fun k h => by have := blk_lt nx1_.O; omega
        case aO => exact Kd.S_mono s3' (fun k h => ⟨h.1, by have := h.2; show ¬ _ ≤ k; omega⟩)
        case aB => exact Below.refl _ _
        case aS => have := blk_lt nx1_.S; omega
        case aL => have := HJ.out; omega
        intro v3 w2 ho2 hb2 hg2 hat2
        obtain ⟨TT, hTT⟩ : ∃ TT, TT = dn ++ [pl] := ⟨_, rfl⟩
        rw [← hTT] at ho2 HR2
        have HTT := Aside0.mk (show TT.length = j + 1 by have := HJ.out; rw [hTT, List.length_append]; simp; omega)
        clear hTT
        obtain ⟨A6, c6, e6⟩ := Kd.S_slice ho2
        subst e6
        have nx2 := nx1_.grownO hg2 (fun k e => by
          obtain ⟨h1, h2⟩ := (Kd.S_R (Kd.S_bound s3')).1 k e
          exact h1.1)
        clear nx1_ s3' hvlt hat2 hg2 hb2 hRu
        refine hK.out _ _ ⟨(blk_cell nx2.O 2).trans rfl, (blk_cell nx2.N 0).trans rfl, (blk_cell nx2.N 1).trans rfl, (blk_cell nx2.N 2).trans rfl, trivial⟩ (fun hHeld2 => ?_)
        clear hK K hHeld
        (refine norm_ (a' := ?_) ?_ ?_; rotate_left; focus (show Act.put _ (some 79) _ = _; simp only [Act.put, List.setIfInBounds_toArray, List.set_cons_zero, List.set_cons_succ]; rfl))
        (refine pure_ (i := 8) (N := some 80) (v := ?_) (a' := ?_) #[true, true, true, true, true, true, true, true, true, false] rfl rfl (by kernel_rfl) (fun _ _ _ h => h) (Or.inl ⟨by rfl, ?_⟩) ?_ ?_; rotate_left; (focus (intro w'_; go_simp; with_reducible rfl)); rotate_left; (focus (simp only [Act.put, List.setIfInBounds_toArray, List.set_cons_zero, List.set_cons_succ]; rfl)))
        refine last_ (i := 9) (N := none) #[true, true, true, true, true, true, true, true, true, true] rfl rfl (by kernel_rfl) (by decide) (fun K hK => ?_)
        have hs0 : w2.cell? ⟨go_, 2, none⟩ = some v2 := (blk_cell nx2.O 2).trans rfl
        have hf0 := blk_frozen nx2.O 2
        refine skip_ (w1 := ?_) (by rfl) rfl ?_ ?_
        rotate_left
        · go_simp
          rfl
        refine hK.out _ _ ?_
        clear hK K
        refine done_ (by kernel_rfl) ?_
        have nx3 := nx2.set 2 (.slice A6 TT.length c6)
        have s4 := Kd.S_set ho2 nx2.O (by decide) 2 (.slice A6 TT.length c6)
        obtain ⟨v4, hv4⟩ : ∃ v, v = Value.slice A6 TT.length c6 := ⟨_, rfl⟩
        rw [← hv4] at nx3 s4 ⊢
        obtain ⟨W6, hW6⟩ : ∃ y, y = w2.setCell ⟨go_, 2, none⟩ v4 := ⟨_, rfl⟩
        rw [← hW6] at nx3 s4 ⊢
        have RX := Aside0.mk (show MX w0 W W6 gm l A c nx1 gs gn x An cn go_ #[.int .i64 k, .slice none 0 0, v4, .slice none 0 0] from by simpa using nx3)
        have HS := Aside0.mk s4
        clear hv4 hW6 nx2 nx3 s4 ho2 hs0 hf0 hHeld2 hord hwj
        go_wp2_with fail
        go_roundg kq
        case measure => omega
        case rel => exact ⟨j + 1, v4, TT, by omega, by go_num, HR2, RX, HS, HTT⟩
  have k3a : (k == 3) = false := beq_eq_false_iff_ne.mpr k3
  rw [if_neg k3] at HG
  obtain ⟨pk, hpk⟩ : ∃ y, y = (if k = 7 then 0 else k - 3) := ⟨_, rfl⟩
  rw [← hpk] at HG
  have hpkr : 0 ≤ pk ∧ pk ≤ 7 := by rw [hpk]; split <;> omega
  obtain ⟨F, hF⟩ : ∃ F, F = (fun p => mkG l n p pk (levels - 1)) := ⟨_, rfl⟩
  rw [← hF] at HG
  have HF := Aside0.mk hF
  have HPK := Aside0.mk hpk
  have HLV := Aside0.mk (show 1 ≤ n ∧ levels - 1 ≤ n ∧ -1000 ≤ levels - 1 ∧ levels - 1 ≤ 1000 by have := HN.out; have := hkr.2.2.1; omega)
  have hk4 : 4 ≤ k := by omega
  clear hF hpk hkr k1 k2 k3 hlv0
  go_upto_if 34 with fail
  go_cut [11] from 35 to 36 (fun v wx => v = .int .i64 pk ∧ wx = W7)
  case first =>
    have hpk := HPK.out
    by_cases k7 : k = 7
    · rw [if_pos k7] at hpk
      subst k7
      go_wp2_with fail
      go_meet
      exact ⟨by rw [hpk], rfl⟩
    · rw [if_neg k7] at hpk
      have k7a : (k == 7) = false := beq_eq_false_iff_ne.mpr k7
      have hk3 : wrap64 (k - 3) = k - 3 := by unfold wrap64; omega
      go_wp2_with fail
      go_meet
      exact ⟨by rw [hpk], rfl⟩
  case rest =>
  obtain ⟨rfl, rfl⟩ := hcut
  go_wp2_with fail
  go_loopg [12] m (fun kq i wr => ∃ (j nj : Nat) (v3 : Value) (dn : List Ge), j + kq = m ∧ i = .int .i64 (j : Int) ∧ Aside0 (partsM F j nx1 = (dn, nj)) ∧ Aside0 (MX w0 W wr gm l A c nj gs gn x An cn go_ #[.int .i64 k, .slice none 0 0, .slice none 0 0, v3]) ∧ Aside0 (Kd.S (kSp n) 28 wr W.heap.size (fun k => go_ < k) v3 dn) ∧ Aside0 (dn.length = j))
  case atStart => exact ⟨0, nx1, _, [], by omega, rfl, ⟨rfl⟩, RX, ⟨Kd.S_nil _ _ _ _ _⟩, ⟨rfl⟩⟩
  case round =>
    clear RX
    obtain ⟨j, nj, v3, dn, hj, rfl, HRR, RX, HS, HJ⟩ := hrel
    cases gk with
    | zero =>
      have hlt : ¬ ((j : Int) < (m : Int)) := by omega
      have hjm : j = m := by omega
      have HG2 := Aside0.mk (show R = (⟨k, [], [], dn⟩, nj) by rw [HG.out, ← hjm, HRR.out])
      clear hjm
      go_upto_region 25 with fail
      obtain ⟨A8, c8, e8⟩ := Kd.S_slice HS.out
      subst e8
      have rz_ := RX.out
      have r0 : wr.cell? ⟨gs, 0, none⟩ = some (.int .i64 0) := (blk_cell rz_.S 0).trans rfl
      have t0 := blk_frozen rz_.S 0
      have r1 : wr.cell? ⟨gs, 1, none⟩ = some (.slice none 0 0) := (blk_cell rz_.S 1).trans rfl
      have t1 := blk_frozen rz_.S 1
      have r2 : wr.cell? ⟨gs, 2, none⟩ = some (.slice none 0 0) := (blk_cell rz_.S 2).trans rfl
      have t2 := blk_frozen rz_.S 2
      have r3 : wr.cell? ⟨gs, 3, none⟩ = some (.slice none 0 0) := (blk_cell rz_.S 3).trans rfl
      have t3 := blk_frozen rz_.S 3
      have o0 : wr.cell? ⟨go_, 0, none⟩ = some (.int .i64 k) := (blk_cell rz_.O 0).trans rfl
      have o1 : wr.cell? ⟨go_, 1, none⟩ = some (.slice none 0 0) := (blk_cell rz_.O 1).trans rfl
      have o2 : wr.cell? ⟨go_, 2, none⟩ = some (.slice none 0 0) := (blk_cell rz_.O 2).trans rfl
      have o3 : wr.cell? ⟨go_, 3, none⟩ = some (.slice A8 dn.length c8) := (blk_cell rz_.O 3).trans rfl
      have RZ := Aside0.mk rz_
      clear rz_
      go_wp2_with fail
      have bk := (blk_set (blk_set (blk_set (blk_set RZ.out.S 0 (.int .i64 k)) 1 (.slice none 0 0)) 2 (.slice none 0 0)) 3 (.slice A8 dn.length c8))
      refine bodyPost_ret (results_geom (a := 6) (by rfl) _ _ (by rfl) (by simpa using bk)) rfl ?_
      have dn_ := RZ.out.done (.int .i64 k) (.slice none 0 0) (.slice none 0 0) (.slice A8 dn.length c8)
      rw [HG2.out]
      exact ⟨_, rfl, RZ.out.copy (ok1 := fun _ => False) (ok2 := fun _ => False) (ok3 := fun k => go_ < k) (fun _ h => h.elim) (fun _ h => h.elim) (fun _ h => h) (fun _ h => h.elim) (fun _ h => h.elim) (fun _ h => h.elim) (Kd.R_nil _ _ _ _ _) (Kd.S_nil _ _ _ _ _) HS.out, dn_.1, dn_.2⟩
    | succ kq =>
      have hlt : (j : Int) < (m : Int) := by omega
      have hj5 : j < 5 := by omega
      have hlv9 : IntKind.i64.wrap (levels - 1) = levels - 1 := by have := HLV.out; rw [IntKind.wrap_i64]; omega
      go_upto_region 15 with fail
      have q0 := RX.out.below (below_drew (Below.refl _ _))
      have s0 := Kd.S_drew HS.out
      have hgz : go_ < wr.drew.heap.size := blk_lt q0.O
      refine start_ (n := 11) (S := fun w' => w'.cell? ⟨go_, 3, none⟩ = some v3 ∧ True) (ds := [10]) #[false, false, false, false, false, false, false, false, false, false, false] hmx rfl rfl ⟨(blk_cell q0.O 3).trans rfl, trivial⟩ (fun hHeld => ?_)
      clear RX HS
      generalize wr.drew = Wb at q0 s0 hgz hHeld ⊢
      (refine pure_ (i := 0) (N := some 42) (v := ?_) (a' := ?_) #[true, false, false, false, false, false, false, false, false, false, false] rfl rfl (by kernel_rfl) (fun _ _ _ h => h) (Or.inl ⟨by rfl, ?_⟩) ?_ ?_; rotate_left; (focus (intro w'_; go_simp; with_reducible rfl)); rotate_left; (focus (simp only [Act.put, List.setIfInBounds_toArray, List.set_cons_zero, List.set_cons_succ]; rfl)))
      (refine pure_ (i := 2) (N := some 44) (v := ?_) (a' := ?_) #[true, false, true, false, false, false, false, false, false, false, false] rfl rfl (by kernel_rfl) (fun _ _ _ h => h) (Or.inl ⟨by rfl, ?_⟩) ?_ ?_; rotate_left; (focus (intro w'_; go_simp; with_reducible rfl)); rotate_left; (focus (simp only [Act.put, List.setIfInBounds_toArray, List.set_cons_zero, List.set_cons_succ]; rfl)))
      (refine pure_ (i := 3) (N := some 45) (v := ?_) (a' := ?_) #[true, false, true, true, false, false, false, false, false, false, false] rfl rfl (by kernel_rfl) (fun _ _ _ h => h) (Or.inl ⟨by rfl, ?_⟩) ?_ ?_; rotate_left; (focus (intro w'_; go_simp; with_reducible rfl)); rotate_left; (focus (simp only [Act.put, List.setIfInBounds_toArray, List.set_cons_zero, List.set_cons_succ]; rfl)))
      (refine pure_ (i := 4) (N := some 46) (v := ?_) (a' := ?_) #[true, false, true, true, true, false, false, false, false, false, false] rfl rfl (by kernel_rfl) (fun _ _ _ h => h) (Or.inl ⟨by rfl, ?_⟩) ?_ ?_; rotate_left; (focus (intro w'_; go_simp; with_reducible rfl)); rotate_left; (focus (simp only [Act.put, List.setIfInBounds_toArray, List.set_cons_zero, List.set_cons_succ]; rfl)))
      (refine pure_ (i := 5) (N := some 47) (v := ?_) (a' := ?_) #[true, false, true, true, true, true, false, false, false, false, false] rfl rfl (by kernel_rfl) (fun _ _ _ h => h) (Or.inl ⟨by rfl, ?_⟩) ?_ ?_; rotate_left; (focus (intro w'_; go_simp; with_reducible rfl)); rotate_left; (focus (simp only [Act.put, List.setIfInBounds_toArray, List.set_cons_zero, List.set_cons_succ]; rfl)))
      (refine take_ (i := 1) (N := some 43) (v := ?_) (a' := ?_) #[true, true, true, true, true, true, false, false, false, false, false] rfl rfl (by kernel_rfl) (fun _ _ _ h => h) (Or.inl ⟨by rfl, ?_⟩) hHeld ?_ ?_; rotate_left; (focus (intro w'_ hs_; (repeat obtain ⟨_, hs_⟩ := hs_); go_simp; with_reducible rfl)); rotate_left; (focus (simp only [Act.put, List.setIfInBounds_toArray, List.set_cons_zero, List.set_cons_succ]; rfl)))
      refine one_ (i := 6) (N := some 48) #[true, true, true, true, true, true, true, false, false, false, false] rfl rfl (by kernel_rfl) (by decide) (fun K hK => ?_)
      refine goes_ Try.func19 (by kernel_rfl) rfl #[.pointer (some ⟨gm, 0, none⟩), .int .i64 pk, .int .i64 (levels - 1)] (by rfl) rfl rfl (by (try simp only [List.map_toArray, List.map_cons, List.map_nil]); first | done | rfl) ?_
      refine (IH.out w0 Wb gm l A c nj pk (levels - 1) q0.P hl hxl HLV.out.1 HLV.out.2.1 HLV.out.2.2.1 HLV.out.2.2.2 hpkr).mono ?_
      rintro e w1 ⟨u, rfl, hcp, hp1, hv1⟩
      have s3' := q0.P.keepS hv1 s0 (fun q hq => (show ∀ q, q ∈ 28 :: [65, 24, 28] → q ≠ 61 by decide) q (by rcases List.mem_cons.1 hq with h | h; exact List.mem_cons.2 (.inl h); exact List.mem_cons.2 (.inr ((kSpP n).2.E q h))))
      have hvlt := Kd.S_lt s0
      have hz1 : Wb.heap.size ≤ w1.heap.size := hv1.s
      obtain ⟨gq, hgq⟩ : ∃ y, y = (mkG l n nj pk (levels - 1)).1 := ⟨_, rfl⟩
      obtain ⟨nq_, hnq⟩ : ∃ y, y = (mkG l n nj pk (levels - 1)).2 := ⟨_, rfl⟩
      rw [← hgq] at hcp
      rw [← hnq] at hp1
      have nx1_ := q0.step hp1 hv1
      obtain ⟨cs, rfl, hM⟩ := hcp
      obtain ⟨E1, e1, E2, e2, E3, e3, rfl, _⟩ := kGe_open (kSp_K n ((kSp n).K_of_M hM))
      have HR2 := Aside0.mk (show partsM F (j + 1) nx1 = (dn ++ [gq], nq_) by
        rw [partsM_snoc, HRR.out, HF.out, hgq, hnq])
      clear hp1 hv1 q0 s0 hgq hnq
      refine ⟨_, rfl, hK.out _ _ ⟨(blk_cell nx1_.O 3).trans rfl, trivial⟩ (fun hHeld2 => ?_)⟩
      clear hK K hHeld
      (refine norm_ (a' := ?_) ?_ ?_; rotate_left; focus (show Act.put _ (some 48) _ = _; simp only [Act.put, List.setIfInBounds_toArray, List.set_cons_zero, List.set_cons_succ]; rfl))
      refine one_ (i := 7) (N := some 49) #[true, true, true, true, true, true, true, true, false, false, false] rfl rfl (by kernel_rfl) (by decide) (fun K hK => ?_)
      (refine value_ (w1 := ?_) (v := ?_) (by rfl) rfl ?_ ?_; rotate_left 2; (focus (go_simp; constructor <;> rfl)))
      have nxa := nx1_.below (below_alloc (Below.refl _ w1) (.cells #[.int .i64 gq.f0, .slice E1 gq.f1.length e1, .slice E2 gq.f2.length e2, .slice E3 gq.f3.length e3] 28))
      refine hK.out _ _ ⟨(blk_cell nxa.O 3).trans rfl, trivial⟩ (fun hHeld => ?_)
      clear hK K hHeld2 nxa
      (refine norm_ (a' := ?_) ?_ ?_; rotate_left; focus (show Act.put _ (some 49) _ = _; simp only [Act.put, List.setIfInBounds_toArray, List.set_cons_zero, List.set_cons_succ]; rfl))
      refine one_ (i := 8) (N := some 50) #[true, true, true, true, true, true, true, true, true, false, false] rfl rfl (by kernel_rfl) (by decide) (fun K hK => ?_)
      have hord := nx1_.h
      refine Kd.S_append_step (kSp n) (w0 := w1) W.heap.size (by rfl) (.tmp 43) (.tmp 49) 26 28 (.agg #[.int .i64 0, .slice none 0 0, .slice none 0 0, .slice none 0 0]) 80 rfl Try.underlying26 (by rw [kSp_sz]; exact infoGe) (by rw [kSp_sz]; rfl) (by rw [kSp_sz]; decide) (by omega) v3 dn gq [.int .i64 gq.f0, .slice E1 gq.f1.length e1, .slice E2 gq.f2.length e2, .slice E3 gq.f3.length e3] (fun k => go_ < k) (fun k => Wb.heap.size ≤ k) rfl rfl ?aP ?aK ?aF ?aO ?aB ?aS ?aL ?_
      case aP => exact (kSp n).M_lower (by omega) ((kSp n).M_mono (fun k h => h) hM)
      case aK => exact fun k h => ⟨by omega, fun e => by have := hvlt k e.symm; omega⟩
      case aF => exact fun k h => by have := blk_lt nx1_.O; omega
      case aO => exact Kd.S_mono s3' (fun k h => ⟨h.1, by have := h.2; show ¬ _ ≤ k; omega⟩)
      case aB => exact Below.refl _ _
      case aS => have := blk_lt nx1_.S; omega
      case aL => have := HJ.out; omega
      intro v4 w2 ho2 hb2 hg2 hat2
      obtain ⟨TT, hTT⟩ : ∃ TT, TT = dn ++ [gq] := ⟨_, rfl⟩
      rw [← hTT] at ho2 HR2
      have HTT := Aside0.mk (show TT.length = j + 1 by have := HJ.out; rw [hTT, List.length_append]; simp; omega)
      clear hTT
      obtain ⟨A6, c6, e6⟩ := Kd.S_slice ho2
      subst e6
      have nx2 := nx1_.grownO hg2 (fun k e => by
        obtain ⟨h1, h2⟩ := (Kd.S_R (Kd.S_bound s3')).1 k e
        exact h1.1)
      clear nx1_ s3' hvlt hat2 hg2 hb2 hM
      refine hK.out _ _ ⟨(blk_cell nx2.O 3).trans rfl, trivial⟩ (fun hHeld2 => ?_)
      clear hK K hHeld
      (refine norm_ (a' := ?_) ?_ ?_; rotate_left; focus (show Act.put _ (some 50) _ = _; simp only [Act.put, List.setIfInBounds_toArray, List.set_cons_zero, List.set_cons_succ]; rfl))
      (refine pure_ (i := 9) (N := some 51) (v := ?_) (a' := ?_) #[true, true, true, true, true, true, true, true, true, true, false] rfl rfl (by kernel_rfl) (fun _ _ _ h => h) (Or.inl ⟨by rfl, ?_⟩) ?_ ?_; rotate_left; (focus (intro w'_; go_simp; with_reducible rfl)); rotate_left; (focus (simp only [Act.put, List.setIfInBounds_toArray, List.set_cons_zero, List.set_cons_succ]; rfl)))
      refine last_ (i := 10) (N := none) #[true, true, true, true, true, true, true, true, true, true, true] rfl rfl (by kernel_rfl) (by decide) (fun K hK => ?_)
      have hs0 : w2.cell? ⟨go_, 3, none⟩ = some v3 := (blk_cell nx2.O 3).trans rfl
      have hf0 := blk_frozen nx2.O 3
      refine skip_ (w1 := ?_) (by rfl) rfl ?_ ?_
      rotate_left
      · go_simp
        rfl
      refine hK.out _ _ ?_
      clear hK K
      refine done_ (by kernel_rfl) ?_
      have nx3 := nx2.set 3 (.slice A6 TT.length c6)
      have hgf := nx2.h
      have s4 := Kd.S_far (p := ⟨go_, 3, none⟩) ho2 (fun k h => by show k ≠ go_; omega) (.slice A6 TT.length c6)
      obtain ⟨v5, hv5⟩ : ∃ v, v = Value.slice A6 TT.length c6 := ⟨_, rfl⟩
      rw [← hv5] at nx3 s4 ⊢
      obtain ⟨W6, hW6⟩ : ∃ y, y = w2.setCell ⟨go_, 3, none⟩ v5 := ⟨_, rfl⟩
      rw [← hW6] at nx3 s4 ⊢
      have RX := Aside0.mk (show MX w0 W W6 gm l A c nq_ gs gn x An cn go_ #[.int .i64 k, .slice none 0 0, .slice none 0 0, v5] from by simpa using nx3)
      have HS := Aside0.mk s4
      clear hv5 hW6 nx2 nx3 s4 ho2 hs0 hf0 hHeld2 hord hgf hlv9
      go_wp2_with fail
      go_roundg kq
      case measure => omega
      case rel => exact ⟨j + 1, nq_, v5, TT, by omega, by go_num, HR2, RX, HS, HTT⟩
end Go.Proofs.Ytiiolhnpnlmkjaa.Tree
