/- Texts of this claim laid one behind the other (TMkS): what each proves stands at its own names; the last one is the claim's. No conditions but those told. -/
import Derived.Test.YtiiolhnpnlmkjaaZOng
import Derived.Laws.Small
namespace Go.Proofs.Ytiiolhnpnlmkjaa.Tree
open Go.RowKit Go.Proofs.Ytiiolhnpnlmkjaa.PWkbPrints Go.Proofs.YtiiolhnpnlmkjaaW.PrintWords Go.Proofs.YtiiolhnpnlmkjaaW.PrintLast Go.Proofs.YtiiolhnpnlmkjaaW.PrintMore Go.Proofs.Ytiiolhnpnlmkjaa.PMk
attribute [local go_sem] Oper.semAt_some max2_int max_two min2_int min_two
def intoN (n top : Int) : Int := if Int.tmod n top < 0 then Int.tmod n top + top else Int.tmod n top
theorem intoN_range (n top : Int) (h : 0 < top) : 0 ≤ intoN n top ∧ intoN n top < top := by
  have h1 := Int.tmod_lt_of_pos n h
  have h2 := Int.lt_tmod_of_pos n h
  unfold intoN
  split <;> omega
theorem into_f (n top : Int) (h : 0 < top) (ht : top ≤ 1099511627776) : plumblaw17_into.f n top = some (intoN n top) := by
  have h1 := Int.tmod_lt_of_pos n h
  have h2 := Int.lt_tmod_of_pos n h
  unfold plumblaw17_into.f intoN
  rw [if_neg (by omega)]
  split
  · rw [show wrap64 (Int.tmod n top + top) = Int.tmod n top + top from by unfold wrap64; omega]
  · rfl
def finM (b : Int) : Int := if Go.bits .and .u64 (b / 4503599627370496) 2047 = 2047 then Go.bits .andNot .u64 b 4503599627370496 else b
def onePt : Pt := ⟨4607182418800017408, 4607182418800017408⟩
def ptM (xy : List Int) (i : Nat) : Pt := if 2 * i + 1 < xy.length then ⟨finM (rd xy ((2 * i : Nat) : Int)), finM (rd xy ((2 * i + 1 : Nat) : Int))⟩ else onePt
def ptsM (xy : List Int) (n : Nat) : List Pt := (List.range n).map (ptM xy)
theorem ptsM_len (xy : List Int) (n : Nat) : (ptsM xy n).length = n := by simp [ptsM]
theorem finM_f (b : Int) : plumblaw17_finite.f b = some (finM b) := by
  unfold plumblaw17_finite.f finM
  split <;> rfl
theorem points_l (xy : List Int) (hl : xy.length ≤ 1152921504606846976) (a0 a1 : Int) (n : Nat) (hn : n ≤ 1000) : ∀ (d k i : Nat), i + d = n → d < k → plumblaw17_points.l0 k (n : Int) (ptsM xy i) (i : Int) a0 a1 xy = some (ptsM xy n) := by
  intro d
  induction d with
  | zero =>
    intro k i hi hk
    obtain ⟨k, rfl⟩ : ∃ m, k = m + 1 := ⟨k - 1, by omega⟩
    obtain rfl : i = n := by omega
    rw [plumblaw17_points.l0, if_neg (by omega)]
  | succ d ih =>
    intro k i hi hk
    obtain ⟨k, rfl⟩ : ∃ m, k = m + 1 := ⟨k - 1, by omega⟩
    have e1 : wrap64 (2 * (i : Int)) = ((2 * i : Nat) : Int) := by unfold wrap64; omega
    have e2 : wrap64 (((2 * i : Nat) : Int) + 1) = ((2 * i + 1 : Nat) : Int) := by unfold wrap64; omega
    have e3 : wrap64 ((i : Int) + 1) = ((i + 1 : Nat) : Int) := by unfold wrap64; omega
    have e4 : ptsM xy (i + 1) = ptsM xy i ++ [ptM xy i] := by unfold ptsM; rw [List.range_succ, List.map_append]; rfl
    have h4 := ih k (i + 1) (by omega) (by omega)
    rw [e4] at h4
    rw [plumblaw17_points.l0, if_pos (by omega), e1, e2, e3]
    by_cases c : 2 * i + 1 < xy.length
    · rw [if_pos (by omega), if_pos (by omega), if_pos (by omega), finM_f, Math.obind, if_pos (by omega), finM_f, Math.obind, if_pos (by rw [ptsM_len]; omega)]
      have e5 : ptM xy i = ⟨finM (rd xy ((2 * i : Nat) : Int)), finM (rd xy ((2 * i + 1 : Nat) : Int))⟩ := if_pos c
      rw [e5] at h4
      exact h4
    · rw [if_neg (by omega), if_pos (by rw [ptsM_len]; omega)]
      have e5 : ptM xy i = onePt := if_neg c
      rw [e5] at h4
      exact h4
theorem points_f (xy : List Int) (hl : xy.length ≤ 1152921504606846976) (a0 a1 : Int) (n : Nat) (hn : n ≤ 1000) : plumblaw17_points.f 1001 a0 a1 xy (n : Int) = some (ptsM xy n) := points_l xy hl a0 a1 n hn n 1001 0 (by omega) (by omega)
theorem pointsM_calls (x : Wn) (A : Option Addr) (c : Nat) (n : Nat) (w : World) (hC : Kd.C (Kd.int .u64) w A x.f2.length x.f2) (hc : x.f2.length ≤ c) (hl : x.f2.length ≤ 1152921504606846976) (hn : n ≤ 1000) :
    Calls Try.prog 32 #[.agg #[.int .i64 x.f0, .int .i64 x.f1, .slice A x.f2.length c], .int .i64 (n : Int)] w fun e w' => ∃ u, e = .returned u ∧ kPt.R 65 w' w.heap.size (fun _ => True) u (ptsM x.f2 n) ∧ Below w.heap.size w w' :=
  plumblaw17_points.calls 1001 x.f0 x.f1 A c x.f2 n (ptsM x.f2 n) w hC hc (points_f x.f2 hl x.f0 x.f1 n hn)
theorem intoM_calls (n top : Int) (h : 0 < top) (ht : top ≤ 1099511627776) (w : World) : Calls Try.prog 31 #[.int .i64 n, .int .i64 top] w fun e w' => e = .returned (.int .i64 (intoN n top)) ∧ Below w.heap.size w w' := by
  refine (plumblaw17_into.calls n top _ w (into_f n top h ht)).mono ?_
  rintro e w' ⟨rfl, m, rfl⟩
  exact ⟨rfl, pw_below_drewN (Below.refl _ _) _⟩
def takeM (l : List Wn) (nx : Nat) : Wn × Nat := if l.length ≤ nx ∨ 60 ≤ nx then (zWn, nx) else (rd_Wn l (nx : Int), nx + 1)
def partsM (f : Nat → Ge × Nat) : Nat → Nat → List Ge × Nat
  | 0, nx => ([], nx)
  | m + 1, nx => ((f nx).1 :: (partsM f m (f nx).2).1, (partsM f m (f nx).2).2)
theorem partsM_snoc (f : Nat → Ge × Nat) : ∀ (m nx : Nat), partsM f (m + 1) nx = ((partsM f m nx).1 ++ [(f (partsM f m nx).2).1], (f (partsM f m nx).2).2) := by
  intro m
  induction m with
  | zero => intro nx; rfl
  | succ m ih =>
    intro nx
    rw [partsM, ih, partsM]
    rfl
theorem partsM_len (f : Nat → Ge × Nat) : ∀ (m nx : Nat), (partsM f m nx).1.length = m := by
  intro m
  induction m with
  | zero => intro nx; rfl
  | succ m ih => intro nx; rw [partsM, List.length_cons, ih]
/-- The kind that is made, and how many. -/
def kindM (x : Wn) (kind levels : Int) : Int := if levels < 2 ∧ 3 < (if kind = 0 then 1 + intoN x.f0 7 else kind) then 1 else if kind = 0 then 1 + intoN x.f0 7 else kind
def manyM (x : Wn) : Nat := (intoN x.f1 5).toNat
/-- The tree that the next nodes make, and which is the next then. -/
def mkG (l : List Wn) : Nat → Nat → Int → Int → Ge × Nat
  | 0, nx, _, _ => (⟨1, [], [], []⟩, nx)
  | f + 1, nx, kind, levels =>
    if kindM (takeM l nx).1 kind levels = 1 then (⟨1, ptsM (takeM l nx).1.f2 (manyM (takeM l nx).1 % 2), [], []⟩, (takeM l nx).2)
    else if kindM (takeM l nx).1 kind levels = 2 then (⟨2, ptsM (takeM l nx).1.f2 (manyM (takeM l nx).1), [], []⟩, (takeM l nx).2)
    else if kindM (takeM l nx).1 kind levels = 3 then (⟨3, [], (List.range (manyM (takeM l nx).1)).map (fun i => ptsM (takeM l nx).1.f2 (1 + i)), []⟩, (takeM l nx).2)
    else (⟨kindM (takeM l nx).1 kind levels, [], [], (partsM (fun p => mkG l f p (if kindM (takeM l nx).1 kind levels = 7 then 0 else kindM (takeM l nx).1 kind levels - 3) (levels - 1)) (manyM (takeM l nx).1) (takeM l nx).2).1⟩,
      (partsM (fun p => mkG l f p (if kindM (takeM l nx).1 kind levels = 7 then 0 else kindM (takeM l nx).1 kind levels - 3) (levels - 1)) (manyM (takeM l nx).1) (takeM l nx).2).2)
theorem manyM_lt (x : Wn) : manyM x < 5 ∧ ((manyM x : Nat) : Int) = intoN x.f1 5 := by
  have := intoN_range x.f1 5 (by decide)
  unfold manyM
  omega
theorem kindM_range (x : Wn) (kind levels : Int) (hk : 0 ≤ kind ∧ kind ≤ 7) : 1 ≤ kindM x kind levels ∧ kindM x kind levels ≤ 7 ∧ (levels < 2 → kindM x kind levels ≤ 3) ∧ (1 ≤ kind → kind ≤ 3 → kindM x kind levels = kind) := by
  have := intoN_range x.f0 7 (by decide)
  unfold kindM
  generalize intoN x.f0 7 = i at *
  by_cases h0 : kind = 0
  · rw [if_pos h0]
    split <;> omega
  · rw [if_neg h0]
    split <;> omega
structure Mk (w0 W : World) (gm : Nat) (l : List Wn) (A : Option Addr) (c nx : Nat) : Prop where
  c : W.heap[gm]? = some (.cells #[.slice A l.length c, .int .i64 (nx : Int)] 61 (0, 0))
  r : Kd.C kWn w0 A l.length l
  h : w0.heap.size ≤ gm
  K : Below w0.heap.size w0 W
  n : nx ≤ 60
/-- Between two worlds the maker alone is changed. -/
structure Mp (W W' : World) (gm : Nat) : Prop where
  s : W.heap.size ≤ W'.heap.size
  k : ∀ j, j < W.heap.size → j ≠ gm → W'.heap[j]? = W.heap[j]?
section
variable {w0 W W' W2 : World} {gm : Nat} {l : List Wn} {A : Option Addr} {c nx nx' : Nat}
theorem Mp.below (gm : Nat) (h : Below W.heap.size W W') : Mp W W' gm := ⟨h.size, fun j hj _ => h.block j hj⟩
theorem Mp.trans (h : Mp W W' gm) (k : Mp W' W2 gm) : Mp W W2 gm := ⟨Nat.le_trans h.s k.s, fun j hj hn => (k.k j (Nat.lt_of_lt_of_le hj h.s) hn).trans (h.k j hj hn)⟩
theorem Mk.below (h : Mk w0 W gm l A c nx) (hb : Below W.heap.size W W') : Mk w0 W' gm l A c nx := ⟨blk_below h.c hb, h.r, h.h, below_step h.K hb, h.n⟩
theorem Mk.keepB (hP : Mk w0 W gm l A c nx) (hv : Mp W W' gm) {k : Nat} {cs : Array Value} {q : Nat} (hc : W.heap[k]? = some (.cells cs q (0, 0))) (hq : q ≠ 61) : W'.heap[k]? = some (.cells cs q (0, 0)) := by
  refine (hv.k k (blk_lt hc) ?_).trans hc
  rintro rfl
  rw [hP.c] at hc
  injection hc with hc
  injection hc with _ hc
  exact hq hc.symm
theorem Mk.keepS {α : Type} {d : Kd α} {e base : Nat} {ok : Nat → Prop} {v : Value} {xs : List α} (hP : Mk w0 W gm l A c nx) (hv : Mp W W' gm) (h : Kd.S d e W base ok v xs) (he : ∀ q, q ∈ e :: d.E → q ≠ 61) : Kd.S d e W' base (fun k => ok k ∧ k < W.heap.size) v xs := by
  refine Kd.S_mono (Kd.S_step (Kd.S_bound h) ?_) (fun _ hk => ⟨hk.1, hk.2.2.1⟩)
  rintro k ⟨_, _, hlt, q, hq, cells, hc⟩ _
  exact (hP.keepB hv hc (he q hq)).trans hc.symm
theorem Mk.grownO {row : Option Nat} (hP : Mk w0 W gm l A c nx) (hg : W.grownBy W' row) (hr : ∀ g, row = some g → w0.heap.size ≤ g ∧ g ≠ gm) : Mk w0 W' gm l A c nx :=
  ⟨blk_grown hP.c hg (fun e => (hr gm e.symm).2 rfl), hP.r, hP.h, hP.K.grown hg hP.K.size (fun k hk => (hr k hk).1), hP.n⟩
theorem Mp.grownO {W0 : World} {row : Option Nat} (h : Mp W0 W gm) (hg : W.grownBy W' row) (hr : ∀ g, row = some g → W0.heap.size ≤ g) : Mp W0 W' gm :=
  ⟨Nat.le_trans h.s hg.size, fun j hj h1 => (hg.block j (Nat.lt_of_lt_of_le hj h.s) (fun e => by have := hr j e.symm; omega)).trans (h.k j hj h1)⟩
end
theorem results_node {fn : Func} {a : Tmp} (h : fn.results = #[.cell a 86]) (tmps : Array Value) (w : World) {b : Nat} {q0 q1 q2 : Value} (hp : tmps.getD a undef = .pointer (some ⟨b, 0, none⟩)) (hb : w.heap[b]? = some (.cells #[q0, q1, q2] 86 (0, 0))) : (results fn tmps).run Try.prog w = .ok (.agg #[q0, q1, q2]) w := by
  rw [Array.getD_eq_getD_getElem?] at hp
  have hu := Try.underlying86
  have c0 : w.cell? ⟨b, 0, none⟩ = some q0 := (blk_cell hb 0).trans rfl
  have c1 : w.cell? ⟨b, 1, none⟩ = some q1 := (blk_cell hb 1).trans rfl
  have c2 : w.cell? ⟨b, 2, none⟩ = some q2 := (blk_cell hb 2).trans rfl
  simp [results, h, hp, go_sem, asAddr, c0, c1, c2]
/-- A node as a value: its numbers lie in memory that came in. -/
def IsN (w0 : World) (u : Value) (x : Wn) : Prop := ∃ A c, u = .agg #[.int .i64 x.f0, .int .i64 x.f1, .slice A x.f2.length c] ∧ x.f2.length ≤ c ∧ Kd.C (Kd.int .u64) w0 A x.f2.length x.f2
set_option maxRecDepth 100000 in
set_option maxHeartbeats 16000000 in
theorem take_calls (w0 W : World) (gm : Nat) (l : List Wn) (A : Option Addr) (c nx : Nat) (hM : Mk w0 W gm l A c nx) (hl : l.length ≤ 1048576) :
    Calls Try.prog 30 #[.pointer (some ⟨gm, 0, none⟩)] W fun e W' => ∃ u, e = .returned u ∧ IsN w0 u (takeM l nx).1 ∧ Mk w0 W' gm l A c (takeM l nx).2 ∧ Mp W W' gm := by
  have hu := Try.underlying86
  have hum := Try.underlying61
  have hmx : Try.prog.follows .mixedOrders = true := by kernel_rfl
  have hnx := hM.n
  have HW0 := Aside0.mk (show ∀ g, W.heap.size ≤ g → w0.heap.size ≤ g from fun g h => Nat.le_trans hM.K.size h)
  have HM := Aside0.mk hM
  clear hM
  go_enter Try.func30, Try.ntmps30
  go_upto_region 1 with fail
  obtain ⟨gs, hgs⟩ : ∃ y, y = W.heap.size := ⟨_, rfl⟩
  obtain ⟨W0, hW0⟩ : ∃ y, y = W.alloc (.cells #[.int .i64 0, .int .i64 0, .slice none 0 0] 86) := ⟨_, rfl⟩
  rw [← hW0, ← hgs]
  have hb0 : Below W.heap.size W W0 := by rw [hW0]; exact below_alloc (Below.refl _ _) _
  have ks : W0.heap[gs]? = some (.cells #[.int .i64 0, .int .i64 0, .slice none 0 0] 86 (0, 0)) := by rw [hW0, hgs]; exact World.alloc_heap_new _ _
  have hMk := HM.out.below hb0
  have H0 := Aside0.mk (And.intro hMk (And.intro (Mp.below gm hb0) (And.intro ks (show W.heap.size ≤ gs by omega))))
  have z0_ : W0.cell? ⟨gm, 0, none⟩ = some (.slice A l.length c) := (blk_cell hMk.c 0).trans rfl
  have z1_ : W0.cell? ⟨gm, 1, none⟩ = some (.int .i64 (nx : Int)) := (blk_cell hMk.c 1).trans rfl
  clear hW0 hgs hb0 ks hMk HM
  by_cases e1 : l.length ≤ nx
  · have d2 : (l.length : Int) ≤ (nx : Int) := by omega
    have HT := Aside0.mk (show l.length ≤ nx ∨ 60 ≤ nx from .inl e1)
    go_quiet (fail)
    have hb1 : Below W0.heap.size W0 (W0.drewN nq) := pw_below_drewN (Below.refl _ _) _
    obtain ⟨W1, hW1⟩ : ∃ y, y = W0.drewN nq := ⟨_, rfl⟩
    rw [← hW1] at hb1 ⊢
    have hk1 := H0.out.1.below hb1
    have hp1 := H0.out.2.1.trans (Mp.below gm hb1)
    have ks := blk_below H0.out.2.2.1 hb1
    have r0 : W1.cell? ⟨gs, 0, none⟩ = some (.int .i64 0) := (blk_cell ks 0).trans rfl
    have r1 : W1.cell? ⟨gs, 1, none⟩ = some (.int .i64 0) := (blk_cell ks 1).trans rfl
    have r2 : W1.cell? ⟨gs, 2, none⟩ = some (.slice none 0 0) := (blk_cell ks 2).trans rfl
    have t0 := blk_frozen ks 0
    have t1 := blk_frozen ks 1
    have t2 := blk_frozen ks 2
    have K1 := Aside0.mk (And.intro hk1 (And.intro hp1 ks))
    have HLE := Aside0.mk H0.out.2.2.2
    clear hW1 hb1 hk1 hp1 ks z0_ z1_ H0
    go_wp2_with fail
    have bk := blk_set (blk_set (blk_set K1.out.2.2 0 (.int .i64 0)) 1 (.int .i64 0)) 2 (.slice none 0 0)
    refine bodyPost_ret (results_node (a := 2) (by rfl) _ _ (by rfl) (by simpa using bk)) rfl ?_
    have ht : takeM l nx = (zWn, nx) := if_pos HT.out
    rw [ht]
    have hne : gm ≠ gs := fun e => by have h1 := K1.out.1.c; rw [e, K1.out.2.2] at h1; injection h1 with h1; injection h1 with _ h1; exact absurd h1 (by decide)
    have hg1 : W1.grownBy (((W1.setCell ⟨gs, 0, none⟩ (.int .i64 0)).setCell ⟨gs, 1, none⟩ (.int .i64 0)).setCell ⟨gs, 2, none⟩ (.slice none 0 0)) (some gs) := ⟨rfl, rfl, rfl, by simp, fun k _ hn => by
      have hk : k ≠ gs := fun e => hn (by rw [e])
      exact (Below.heap_setCell _ ⟨gs, 2, none⟩ _ k hk).trans ((Below.heap_setCell _ ⟨gs, 1, none⟩ _ k hk).trans (Below.heap_setCell _ ⟨gs, 0, none⟩ _ k hk))⟩
    have hle := HLE.out
    have hw0 := K1.out.1.K.size
    have hgs0 : w0.heap.size ≤ gs := HW0.out gs hle
    exact ⟨_, rfl, ⟨none, 0, rfl, Nat.le_refl _, Kd.C_nil _ _⟩, K1.out.1.grownO hg1 (fun g e => by injection e with e; subst e; exact ⟨hgs0, fun e => hne e.symm⟩), K1.out.2.1.grownO hg1 (fun g e => by injection e with e; subst e; exact hle)⟩
  have d2 : ¬ (l.length : Int) ≤ (nx : Int) := by omega
  by_cases e2 : 60 ≤ nx
  · have d3 : (60 : Int) ≤ (nx : Int) := by omega
    have HT := Aside0.mk (show l.length ≤ nx ∨ 60 ≤ nx from .inr e2)
    go_quiet (fail)
    have hb1 : Below W0.heap.size W0 (W0.drewN nq) := pw_below_drewN (Below.refl _ _) _
    obtain ⟨W1, hW1⟩ : ∃ y, y = W0.drewN nq := ⟨_, rfl⟩
    rw [← hW1] at hb1 ⊢
    have hk1 := H0.out.1.below hb1
    have hp1 := H0.out.2.1.trans (Mp.below gm hb1)
    have ks := blk_below H0.out.2.2.1 hb1
    have r0 : W1.cell? ⟨gs, 0, none⟩ = some (.int .i64 0) := (blk_cell ks 0).trans rfl
    have r1 : W1.cell? ⟨gs, 1, none⟩ = some (.int .i64 0) := (blk_cell ks 1).trans rfl
    have r2 : W1.cell? ⟨gs, 2, none⟩ = some (.slice none 0 0) := (blk_cell ks 2).trans rfl
    have t0 := blk_frozen ks 0
    have t1 := blk_frozen ks 1
    have t2 := blk_frozen ks 2
    have K1 := Aside0.mk (And.intro hk1 (And.intro hp1 ks))
    have HLE := Aside0.mk H0.out.2.2.2
    clear hW1 hb1 hk1 hp1 ks z0_ z1_ H0
    go_wp2_with fail
    have bk := blk_set (blk_set (blk_set K1.out.2.2 0 (.int .i64 0)) 1 (.int .i64 0)) 2 (.slice none 0 0)
    refine bodyPost_ret (results_node (a := 2) (by rfl) _ _ (by rfl) (by simpa using bk)) rfl ?_
    have ht : takeM l nx = (zWn, nx) := if_pos HT.out
    rw [ht]
    have hne : gm ≠ gs := fun e => by have h1 := K1.out.1.c; rw [e, K1.out.2.2] at h1; injection h1 with h1; injection h1 with _ h1; exact absurd h1 (by decide)
    have hg1 : W1.grownBy (((W1.setCell ⟨gs, 0, none⟩ (.int .i64 0)).setCell ⟨gs, 1, none⟩ (.int .i64 0)).setCell ⟨gs, 2, none⟩ (.slice none 0 0)) (some gs) := ⟨rfl, rfl, rfl, by simp, fun k _ hn => by
      have hk : k ≠ gs := fun e => hn (by rw [e])
      exact (Below.heap_setCell _ ⟨gs, 2, none⟩ _ k hk).trans ((Below.heap_setCell _ ⟨gs, 1, none⟩ _ k hk).trans (Below.heap_setCell _ ⟨gs, 0, none⟩ _ k hk))⟩
    have hle := HLE.out
    have hw0 := K1.out.1.K.size
    have hgs0 : w0.heap.size ≤ gs := HW0.out gs hle
    exact ⟨_, rfl, ⟨none, 0, rfl, Nat.le_refl _, Kd.C_nil _ _⟩, K1.out.1.grownO hg1 (fun g e => by injection e with e; subst e; exact ⟨hgs0, fun e => hne e.symm⟩), K1.out.2.1.grownO hg1 (fun g e => by injection e with e; subst e; exact hle)⟩
  have d3 : ¬ (60 : Int) ≤ (nx : Int) := by omega
  go_quiet (fail)
  have hb1 : Below W0.heap.size W0 (W0.drewN nq) := pw_below_drewN (Below.refl _ _) _
  obtain ⟨W1, hW1⟩ : ∃ y, y = W0.drewN nq := ⟨_, rfl⟩
  rw [← hW1] at hb1 ⊢
  have hk1 := H0.out.1.below hb1
  have hp1 := H0.out.2.1.trans (Mp.below gm hb1)
  have ks := blk_below H0.out.2.2.1 hb1
  have z0_ : W1.cell? ⟨gm, 0, none⟩ = some (.slice A l.length c) := (blk_cell hk1.c 0).trans rfl
  have z1_ : W1.cell? ⟨gm, 1, none⟩ = some (.int .i64 (nx : Int)) := (blk_cell hk1.c 1).trans rfl
  have y1_ := blk_frozen hk1.c 1
  have K1 := Aside0.mk (And.intro hk1 (And.intro hp1 ks))
  have HLE := Aside0.mk H0.out.2.2.2
  clear hW1 hb1 hk1 hp1 ks H0
  go_upto_region 4 with fail
  obtain ⟨W2, hW2⟩ : ∃ y, y = W1.setCell ⟨gm, 1, none⟩ (.int .i64 ((nx : Int) + 1)) := ⟨_, rfl⟩
  rw [← hW2]
  have hg2 : W1.grownBy W2 (some gm) := by rw [hW2]; exact grown_set W1 gm 1 _
  have hw0 : w0.heap.size ≤ gm := K1.out.1.h
  have hk2 : Mk w0 W2 gm l A c (nx + 1) := ⟨by rw [hW2]; simpa using blk_set K1.out.1.c 1 (.int .i64 ((nx : Int) + 1)), K1.out.1.r, hw0, K1.out.1.K.grown hg2 K1.out.1.K.size (fun k e => by injection e with e; subst e; exact hw0), by omega⟩
  have hm2 : Mp W W2 gm := by
    refine K1.out.2.1.trans ⟨by rw [hW2]; simp, fun j hj hn => ?_⟩
    rw [hW2]
    exact Below.heap_setCell W1 ⟨gm, 1, none⟩ _ j hn
  have hgsm : gs ≠ gm := fun e => by have h1 := K1.out.1.c; rw [← e, K1.out.2.2] at h1; injection h1 with h1; injection h1 with _ h1; exact absurd h1 (by decide)
  have ks2 : W2.heap[gs]? = some (.cells #[.int .i64 0, .int .i64 0, .slice none 0 0] 86 (0, 0)) := by rw [hW2]; exact (Below.heap_setCell W1 ⟨gm, 1, none⟩ _ gs hgsm).trans K1.out.2.2
  obtain ⟨ad, A2, c2, eA, x0, x1, x2, l2, g2⟩ := at_Wn hk2.r (nx : Int) (by omega) (by omega)
  have hT : (takeM l nx) = (rd_Wn l (nx : Int), nx + 1) := if_neg (by omega)
  have y0 := (hk2.K.cell (World.block_lt_of_cell? w0 _ x0)).trans x0
  have y1 := (hk2.K.cell (World.block_lt_of_cell? w0 _ x1)).trans x1
  have y2 := (hk2.K.cell (World.block_lt_of_cell? w0 _ x2)).trans x2
  rw [Int.toNat_natCast] at y0 y1 y2
  subst eA
  have z0 : W2.cell? ⟨gm, 0, none⟩ = some (.slice (some ad) l.length c) := (blk_cell hk2.c 0).trans rfl
  have z1 : W2.cell? ⟨gm, 1, none⟩ = some (.int .i64 (((nx + 1 : Nat) : Int))) := (blk_cell hk2.c 1).trans rfl
  have HK2 := Aside0.mk (And.intro hk2 (And.intro hm2 (And.intro ks2 (And.intro l2 g2))))
  have hT2 := Aside0.mk hT
  clear hW2 hg2 hk2 hm2 ks2 l2 g2 x0 x1 x2 K1 z0_ z1_ y1_ hT hgsm
  rw [show (((nx + 1 : Nat) : Int)) = (nx : Int) + 1 from by omega] at z1
  obtain ⟨x, hx⟩ : ∃ x, x = rd_Wn l (nx : Int) := ⟨_, rfl⟩
  rw [← hx] at y0 y1 y2 HK2 hT2
  clear hx
  refine start_ (n := 12) (S := fun w' => w'.cell? ⟨gm, 0, none⟩ = some (.slice (some ad) l.length c) ∧ w'.cell? ⟨gm, 1, none⟩ = some (.int .i64 ((nx : Int) + 1)) ∧ w'.cell? (ad.add (nx * 3)) = some (.int .i64 x.f0) ∧ w'.cell? ⟨(ad.add (nx * 3)).block, (ad.add (nx * 3)).off + 1, none⟩ = some (.int .i64 x.f1) ∧ w'.cell? ⟨(ad.add (nx * 3)).block, (ad.add (nx * 3)).off + 2, none⟩ = some (.slice A2 x.f2.length c2) ∧ True) (ds := [11]) #[false, false, false, false, false, false, false, false, false, false, false, false] hmx rfl rfl ⟨z0, z1, y0, y1, y2, trivial⟩ (fun hHeld => ?_)
  have hwn : IntKind.i64.wrap (nx : Int) = (nx : Int) := by rw [IntKind.wrap_i64]; omega
  have hlt0 : (0 : Int) ≤ (nx : Int) := by omega
  have hlt1 : (nx : Int) < (l.length : Int) := by omega
  (refine pure_ (i := 0) (N := some 28) (v := ?_) (a' := ?_) #[true, false, false, false, false, false, false, false, false, false, false, false] rfl rfl (by kernel_rfl) (fun _ _ _ h => h) (Or.inl ⟨by rfl, ?_⟩) ?_ ?_; rotate_left; (focus (intro w'_; go_simp; with_reducible rfl)); rotate_left; (focus (simp only [Act.put, List.setIfInBounds_toArray, List.set_cons_zero, List.set_cons_succ]; rfl)))
  (refine pure_ (i := 1) (N := some 29) (v := ?_) (a' := ?_) #[true, true, false, false, false, false, false, false, false, false, false, false] rfl rfl (by kernel_rfl) (fun _ _ _ h => h) (Or.inl ⟨by rfl, ?_⟩) ?_ ?_; rotate_left; (focus (intro w'_; go_simp; with_reducible rfl)); rotate_left; (focus (simp only [Act.put, List.setIfInBounds_toArray, List.set_cons_zero, List.set_cons_succ]; rfl)))
  (refine pure_ (i := 2) (N := some 30) (v := ?_) (a' := ?_) #[true, true, true, false, false, false, false, false, false, false, false, false] rfl rfl (by kernel_rfl) (fun _ _ _ h => h) (Or.inl ⟨by rfl, ?_⟩) ?_ ?_; rotate_left; (focus (intro w'_; go_simp; with_reducible rfl)); rotate_left; (focus (simp only [Act.put, List.setIfInBounds_toArray, List.set_cons_zero, List.set_cons_succ]; rfl)))
  (refine take_ (i := 3) (N := some 31) (v := ?_) (a' := ?_) #[true, true, true, true, false, false, false, false, false, false, false, false] rfl rfl (by kernel_rfl) (fun _ _ _ h => h) (Or.inl ⟨by rfl, ?_⟩) hHeld ?_ ?_; rotate_left; (focus (intro w'_ hs_; (repeat obtain ⟨_, hs_⟩ := hs_); go_simp; with_reducible rfl)); rotate_left; (focus (simp only [Act.put, List.setIfInBounds_toArray, List.set_cons_zero, List.set_cons_succ]; rfl)))
  (refine pure_ (i := 4) (N := some 32) (v := ?_) (a' := ?_) #[true, true, true, true, true, false, false, false, false, false, false, false] rfl rfl (by kernel_rfl) (fun _ _ _ h => h) (Or.inl ⟨by rfl, ?_⟩) ?_ ?_; rotate_left; (focus (intro w'_; go_simp; with_reducible rfl)); rotate_left; (focus (simp only [Act.put, List.setIfInBounds_toArray, List.set_cons_zero, List.set_cons_succ]; rfl)))
  (refine pure_ (i := 5) (N := some 33) (v := ?_) (a' := ?_) #[true, true, true, true, true, true, false, false, false, false, false, false] rfl rfl (by kernel_rfl) (fun _ _ _ h => h) (Or.inl ⟨by rfl, ?_⟩) ?_ ?_; rotate_left; (focus (intro w'_; go_simp; with_reducible rfl)); rotate_left; (focus (simp only [Act.put, List.setIfInBounds_toArray, List.set_cons_zero, List.set_cons_succ]; rfl)))
  (refine pure_ (i := 6) (N := some 34) (v := ?_) (a' := ?_) #[true, true, true, true, true, true, true, false, false, false, false, false] rfl rfl (by kernel_rfl) (fun _ _ _ h => h) (Or.inl ⟨by rfl, ?_⟩) ?_ ?_; rotate_left; (focus (intro w'_; go_simp; with_reducible rfl)); rotate_left; (focus (simp only [Act.put, List.setIfInBounds_toArray, List.set_cons_zero, List.set_cons_succ]; rfl)))
  (refine take_ (i := 7) (N := some 35) (v := ?_) (a' := ?_) #[true, true, true, true, true, true, true, true, false, false, false, false] rfl rfl (by kernel_rfl) (fun _ _ _ h => h) (Or.inl ⟨by rfl, ?_⟩) hHeld ?_ ?_; rotate_left; (focus (intro w'_ hs_; (repeat obtain ⟨_, hs_⟩ := hs_); go_simp; with_reducible rfl)); rotate_left; (focus (simp only [Act.put, List.setIfInBounds_toArray, List.set_cons_zero, List.set_cons_succ]; rfl)))
  (refine pure_ (i := 8) (N := some 36) (v := ?_) (a' := ?_) #[true, true, true, true, true, true, true, true, true, false, false, false] rfl rfl (by kernel_rfl) (fun _ _ _ h => h) (Or.inl ⟨by rfl, ?_⟩) ?_ ?_; rotate_left; (focus (intro w'_; go_simp; with_reducible rfl)); rotate_left; (focus (simp only [Act.put, List.setIfInBounds_toArray, List.set_cons_zero, List.set_cons_succ]; rfl)))
  (refine pure_ (i := 9) (N := some 37) (v := ?_) (a' := ?_) #[true, true, true, true, true, true, true, true, true, true, false, false] rfl rfl (by kernel_rfl) (fun _ _ _ h => h) (Or.inl ⟨by rfl, ?_⟩) ?_ ?_; rotate_left; (focus (intro w'_; go_simp; with_reducible rfl)); rotate_left; (focus (simp only [Act.put, List.setIfInBounds_toArray, List.set_cons_zero, List.set_cons_succ]; rfl)))
  (refine take_ (i := 10) (N := some 38) (v := ?_) (a' := ?_) #[true, true, true, true, true, true, true, true, true, true, true, false] rfl rfl (by kernel_rfl) (fun _ _ _ h => h) (Or.inl ⟨by rfl, ?_⟩) hHeld ?_ ?_; rotate_left; (focus (intro w'_ hs_; (repeat obtain ⟨_, hs_⟩ := hs_); go_simp; with_reducible rfl)); rotate_left; (focus (simp only [Act.put, List.setIfInBounds_toArray, List.set_cons_zero, List.set_cons_succ]; rfl)))
  refine last_ (i := 11) (N := none) #[true, true, true, true, true, true, true, true, true, true, true, true] rfl rfl (by kernel_rfl) (by decide) (fun K hK => ?_)
  have hbd : Below W2.heap.size W2 W2.drew := below_drew (Below.refl _ _)
  have HKd := Aside0.mk (And.intro (HK2.out.1.below hbd) (And.intro (HK2.out.2.1.trans (Mp.below gm hbd)) (And.intro (blk_below HK2.out.2.2.1 hbd) HK2.out.2.2.2)))
  clear hbd z0 z1 y0 y1 y2 HK2 hHeld
  generalize W2.drew = Wd at *
  have hs0 : Wd.cell? ⟨gs, 0, none⟩ = some (.int .i64 0) := (blk_cell HKd.out.2.2.1 0).trans rfl
  have hs1 : Wd.cell? ⟨gs, 1, none⟩ = some (.int .i64 0) := (blk_cell HKd.out.2.2.1 1).trans rfl
  have hs2 : Wd.cell? ⟨gs, 2, none⟩ = some (.slice none 0 0) := (blk_cell HKd.out.2.2.1 2).trans rfl
  have hf0 := blk_frozen HKd.out.2.2.1 0
  have hf1 := blk_frozen HKd.out.2.2.1 1
  have hf2 := blk_frozen HKd.out.2.2.1 2
  refine skip_ (w1 := ?_) (by rfl) rfl ?_ ?_
  rotate_left
  · go_simp
    rfl
  refine hK.out _ _ ?_
  clear hK K hs0 hs1 hs2 hf0 hf1 hf2
  refine done_ (by kernel_rfl) ?_
  have bk := blk_set (blk_set (blk_set HKd.out.2.2.1 0 (.int .i64 x.f0)) 1 (.int .i64 x.f1)) 2 (.slice A2 x.f2.length c2)
  obtain ⟨W3, hW3⟩ : ∃ y, y = ((Wd.setCell ⟨gs, 0, none⟩ (.int .i64 x.f0)).setCell ⟨gs, 1, none⟩ (.int .i64 x.f1)).setCell ⟨gs, 2, none⟩ (.slice A2 x.f2.length c2) := ⟨_, rfl⟩
  rw [← hW3] at bk ⊢
  have hg1 : Wd.grownBy W3 (some gs) := by
    rw [hW3]
    exact ⟨rfl, rfl, rfl, by simp, fun k _ hn => by
      have hk : k ≠ gs := fun e => hn (by rw [e])
      exact (Below.heap_setCell _ ⟨gs, 2, none⟩ _ k hk).trans ((Below.heap_setCell _ ⟨gs, 1, none⟩ _ k hk).trans (Below.heap_setCell _ ⟨gs, 0, none⟩ _ k hk))⟩
  have hne : gm ≠ gs := fun e => by have h1 := HKd.out.1.c; rw [e, HKd.out.2.2.1] at h1; injection h1 with h1; injection h1 with _ h1; exact absurd h1 (by decide)
  have hle := HLE.out
  have hgs0 : w0.heap.size ≤ gs := HW0.out gs hle
  have HF := Aside0.mk (And.intro (HKd.out.1.grownO hg1 (fun g e => by injection e with e; subst e; exact ⟨hgs0, fun e => hne e.symm⟩)) (And.intro (HKd.out.2.1.grownO hg1 (fun g e => by injection e with e; subst e; exact hle)) (And.intro bk HKd.out.2.2.2)))
  clear hW3 bk hg1 hne HKd
  go_wp2_with fail
  refine bodyPost_ret (results_node (a := 2) (by rfl) _ _ (by rfl) (by simpa using HF.out.2.2.1)) rfl ?_
  rw [hT2.out]
  exact ⟨_, rfl, ⟨A2, c2, rfl, HF.out.2.2.2.1, HF.out.2.2.2.2⟩, HF.out.1, HF.out.2.1⟩
end Go.Proofs.Ytiiolhnpnlmkjaa.Tree
