/- Texts of this claim laid one behind the other (TMkS; TMk; TPB): what each proves stands at its own names; the last one is the claim's. No conditions but those told. -/
import Derived.Test.YtiiolhnpnlmkjaaDoorZCnh
import Derived.Laws.Small
namespace Go.Proofs.YtiiolhnpnlmkjaaDoor.Tree
open Go.RowKit Go.Proofs.YtiiolhnpnlmkjaaDoor.PWkbPrints Go.Proofs.YtiiolhnpnlmkjaaDoorW.PrintWords Go.Proofs.YtiiolhnpnlmkjaaDoorW.PrintLast Go.Proofs.YtiiolhnpnlmkjaaDoorW.PrintMore Go.Proofs.YtiiolhnpnlmkjaaDoor.PMk
attribute [local go_sem] Oper.semAt_some max2_int max_two min2_int min_two
def intoN (n top : Int) : Int := if Int.tmod n top < 0 then Int.tmod n top + top else Int.tmod n top
theorem intoN_range (n top : Int) (h : 0 < top) : 0 ≤ intoN n top ∧ intoN n top < top := by
  have h1 := Int.tmod_lt_of_pos n h
  have h2 := Int.lt_tmod_of_pos n h
  unfold intoN
  split <;> omega
theorem into_f (n top : Int) (h : 0 < top) (ht : top ≤ 1099511627776) : plumblaw17_into.f n top = some (intoN n top) := by
  have h1 := Int.tmod_lt_of_pos n h
  have h2 := Int.lt_tmod_of_pos n h
  unfold plumblaw17_into.f intoN
  rw [if_neg (by omega)]
  split
  · rw [show wrap64 (Int.tmod n top + top) = Int.tmod n top + top from by unfold wrap64; omega]
  · rfl
theorem intoM_calls (n top : Int) (h : 0 < top) (ht : top ≤ 1099511627776) (w : World) : Calls Tryd.prog 28 #[.int .i64 n, .int .i64 top] w fun e w' => e = .returned (.int .i64 (intoN n top)) ∧ Below w.heap.size w w' := by
  refine (plumblaw17_into.calls n top _ w (into_f n top h ht)).mono ?_
  rintro e w' ⟨rfl, m, rfl⟩
  exact ⟨rfl, pw_below_drewN (Below.refl _ _) _⟩
structure Mk (w0 W : World) (gm : Nat) (l : List Wn) (A : Option Addr) (c nx : Nat) : Prop where
  c : W.heap[gm]? = some (.cells #[.slice A l.length c, .int .i64 (nx : Int)] 106 (0, 0))
  r : Kd.C kWn w0 A l.length l
  h : w0.heap.size ≤ gm
  K : Below w0.heap.size w0 W
  n : nx ≤ 60
/-- Between two worlds the maker alone is changed. -/
structure Mp (W W' : World) (gm : Nat) : Prop where
  s : W.heap.size ≤ W'.heap.size
  k : ∀ j, j < W.heap.size → j ≠ gm → W'.heap[j]? = W.heap[j]?
section
variable {w0 W W' W2 : World} {gm : Nat} {l : List Wn} {A : Option Addr} {c nx nx' : Nat}
theorem Mp.below (gm : Nat) (h : Below W.heap.size W W') : Mp W W' gm := ⟨h.size, fun j hj _ => h.block j hj⟩
theorem Mp.trans (h : Mp W W' gm) (k : Mp W' W2 gm) : Mp W W2 gm := ⟨Nat.le_trans h.s k.s, fun j hj hn => (k.k j (Nat.lt_of_lt_of_le hj h.s) hn).trans (h.k j hj hn)⟩
theorem Mk.below (h : Mk w0 W gm l A c nx) (hb : Below W.heap.size W W') : Mk w0 W' gm l A c nx := ⟨blk_below h.c hb, h.r, h.h, below_step h.K hb, h.n⟩
theorem Mk.keepB (hP : Mk w0 W gm l A c nx) (hv : Mp W W' gm) {k : Nat} {cs : Array Value} {q : Nat} (hc : W.heap[k]? = some (.cells cs q (0, 0))) (hq : q ≠ 106) : W'.heap[k]? = some (.cells cs q (0, 0)) := by
  refine (hv.k k (blk_lt hc) ?_).trans hc
  rintro rfl
  rw [hP.c] at hc
  injection hc with hc
  injection hc with _ hc
  exact hq hc.symm
theorem Mk.keepS {α : Type} {d : Kd α} {e base : Nat} {ok : Nat → Prop} {v : Value} {xs : List α} (hP : Mk w0 W gm l A c nx) (hv : Mp W W' gm) (h : Kd.S d e W base ok v xs) (he : ∀ q, q ∈ e :: d.E → q ≠ 106) : Kd.S d e W' base (fun k => ok k ∧ k < W.heap.size) v xs := by
  refine Kd.S_mono (Kd.S_step (Kd.S_bound h) ?_) (fun _ hk => ⟨hk.1, hk.2.2.1⟩)
  rintro k ⟨_, _, hlt, q, hq, cells, hc⟩ _
  exact (hP.keepB hv hc (he q hq)).trans hc.symm
theorem Mk.grownO {row : Option Nat} (hP : Mk w0 W gm l A c nx) (hg : W.grownBy W' row) (hr : ∀ g, row = some g → w0.heap.size ≤ g ∧ g ≠ gm) : Mk w0 W' gm l A c nx :=
  ⟨blk_grown hP.c hg (fun e => (hr gm e.symm).2 rfl), hP.r, hP.h, hP.K.grown hg hP.K.size (fun k hk => (hr k hk).1), hP.n⟩
theorem Mp.grownO {W0 : World} {row : Option Nat} (h : Mp W0 W gm) (hg : W.grownBy W' row) (hr : ∀ g, row = some g → W0.heap.size ≤ g) : Mp W0 W' gm :=
  ⟨Nat.le_trans h.s hg.size, fun j hj h1 => (hg.block j (Nat.lt_of_lt_of_le hj h.s) (fun e => by have := hr j e.symm; omega)).trans (h.k j hj h1)⟩
end
/-- A walk of the maker's geom: the maker, the result's cell, the node, the tree that is made. -/
structure MX (w0 W W' : World) (gm : Nat) (l : List Wn) (A : Option Addr) (c nx : Nat) (gs gn : Nat) (x : Wn) (An : Option Addr) (cn : Nat) (go_ : Nat) (cs : Array Value) : Prop where
  P : Mk w0 W' gm l A c nx
  M : Mp W W' gm
  S : W'.heap[gs]? = some (.cells #[.int .i64 0, .slice none 0 0, .slice none 0 0, .slice none 0 0] 28 (0, 0))
  N : W'.heap[gn]? = some (.cells #[.int .i64 x.f0, .int .i64 x.f1, .slice An x.f2.length cn] 149 (0, 0))
  O : W'.heap[go_]? = some (.cells cs 28 (0, 0))
  h : w0.heap.size ≤ W.heap.size ∧ W.heap.size ≤ gs ∧ gs < go_ ∧ W.heap.size ≤ gn ∧ gn < go_ ∧ gm < W.heap.size
section
variable {w0 W W' W2 : World} {gm : Nat} {l : List Wn} {A : Option Addr} {c nx nx' : Nat} {gs gn : Nat} {x : Wn} {An : Option Addr} {cn : Nat} {go_ : Nat} {cs : Array Value}
theorem MX.step (h : MX w0 W W' gm l A c nx gs gn x An cn go_ cs) (hp : Mk w0 W2 gm l A c nx') (hv : Mp W' W2 gm) : MX w0 W W2 gm l A c nx' gs gn x An cn go_ cs :=
  ⟨hp, h.M.trans hv, h.P.keepB hv h.S (by decide), h.P.keepB hv h.N (by decide), h.P.keepB hv h.O (by decide), h.h⟩
theorem MX.below (h : MX w0 W W' gm l A c nx gs gn x An cn go_ cs) (hb : Below W'.heap.size W' W2) : MX w0 W W2 gm l A c nx gs gn x An cn go_ cs := h.step (h.P.below hb) (Mp.below gm hb)
theorem MX.grownO {row : Option Nat} (h : MX w0 W W' gm l A c nx gs gn x An cn go_ cs) (hg : W'.grownBy W2 row) (hr : ∀ g, row = some g → go_ < g) : MX w0 W W2 gm l A c nx gs gn x An cn go_ cs := by
  have hh := h.h
  exact ⟨h.P.grownO hg (fun g e => by have := hr g e; omega), h.M.grownO hg (fun g e => by have := hr g e; omega), blk_grown h.S hg (fun e => by have := hr gs e.symm; omega), blk_grown h.N hg (fun e => by have := hr gn e.symm; omega), blk_grown h.O hg (fun e => by have := hr go_ e.symm; omega), h.h⟩
theorem MX.set (h : MX w0 W W' gm l A c nx gs gn x An cn go_ cs) (i : Nat) (u : Value) : MX w0 W (W'.setCell ⟨go_, i, none⟩ u) gm l A c nx gs gn x An cn go_ (cs.setIfInBounds i u) := by
  have hh := h.h
  have hg := grown_set W' go_ i u
  exact ⟨h.P.grownO hg (fun g e => by injection e with e; subst e; omega), h.M.grownO hg (fun g e => by injection e with e; omega), blk_far h.S (p := ⟨go_, i, none⟩) (by show gs ≠ go_; omega) _, blk_far h.N (p := ⟨go_, i, none⟩) (by show gn ≠ go_; omega) _, blk_set h.O i u, h.h⟩
/-- The result is stored: the four cells of the answer. -/
theorem MX.done (h : MX w0 W W' gm l A c nx gs gn x An cn go_ cs) (u0 u1 u2 u3 : Value) :
    Mk w0 ((((W'.setCell ⟨gs, 0, none⟩ u0).setCell ⟨gs, 1, none⟩ u1).setCell ⟨gs, 2, none⟩ u2).setCell ⟨gs, 3, none⟩ u3) gm l A c nx ∧ Mp W ((((W'.setCell ⟨gs, 0, none⟩ u0).setCell ⟨gs, 1, none⟩ u1).setCell ⟨gs, 2, none⟩ u2).setCell ⟨gs, 3, none⟩ u3) gm := by
  have hh := h.h
  have one : ∀ (w2 : World) (i : Nat) (u : Value), Mk w0 w2 gm l A c nx ∧ Mp W w2 gm → Mk w0 (w2.setCell ⟨gs, i, none⟩ u) gm l A c nx ∧ Mp W (w2.setCell ⟨gs, i, none⟩ u) gm := by
    intro w2 i u hp
    have hg := grown_set w2 gs i u
    exact ⟨hp.1.grownO hg (fun g e => by injection e with e; subst e; omega), hp.2.grownO hg (fun g e => by injection e with e; omega)⟩
  exact one _ 3 u3 (one _ 2 u2 (one _ 1 u1 (one _ 0 u0 ⟨h.P, h.M⟩)))
/-- What is stored is a copy. -/
theorem MX.copy {n : Nat} {k : Int} {v1 v2 v3 u0 u1 u2 u3 : Value} {l1 : List Pt} {l2 : List (List Pt)} {l3 : List Ge} {ok1 ok2 ok3 : Nat → Prop} (h : MX w0 W W' gm l A c nx gs gn x An cn go_ cs)
    (a1 : ∀ k, ok1 k → go_ < k) (a2 : ∀ k, ok2 k → go_ < k) (a3 : ∀ k, ok3 k → go_ < k) (d12 : ∀ k, ok1 k → ¬ ok2 k) (d13 : ∀ k, ok1 k → ¬ ok3 k) (d23 : ∀ k, ok2 k → ¬ ok3 k)
    (h1 : kPt.R 82 W' W.heap.size ok1 v1 l1) (h2 : Kd.S (Kd.slice 82 kPt) 24 W' W.heap.size ok2 v2 l2) (h3 : Kd.S (kSp n) 28 W' W.heap.size ok3 v3 l3) :
    CopyOf (n + 1) W ((((W'.setCell ⟨gs, 0, none⟩ u0).setCell ⟨gs, 1, none⟩ u1).setCell ⟨gs, 2, none⟩ u2).setCell ⟨gs, 3, none⟩ u3) (.agg #[.int .i64 k, v1, v2, v3]) ⟨k, l1, l2, l3⟩ := by
  have hh := h.h
  refine ⟨[.int .i64 k, v1, v2, v3], rfl, ?_⟩
  rw [kSp_M]
  exact ⟨v1, v2, v3, ok1, ok2, ok3, rfl, fun k h => by have := a1 k h; omega, fun k h => by have := a2 k h; omega, fun k h => by have := a3 k h; omega, d12, d13, d23,
    Kd.R_far (p := ⟨gs, 3, none⟩) (Kd.R_far (p := ⟨gs, 2, none⟩) (Kd.R_far (p := ⟨gs, 1, none⟩) (Kd.R_far (p := ⟨gs, 0, none⟩) h1 (fun k h => by have := a1 k h; show k ≠ gs; omega) _) (fun k h => by have := a1 k h; show k ≠ gs; omega) _) (fun k h => by have := a1 k h; show k ≠ gs; omega) _) (fun k h => by have := a1 k h; show k ≠ gs; omega) _,
    Kd.S_far (p := ⟨gs, 3, none⟩) (Kd.S_far (p := ⟨gs, 2, none⟩) (Kd.S_far (p := ⟨gs, 1, none⟩) (Kd.S_far (p := ⟨gs, 0, none⟩) h2 (fun k h => by have := a2 k h; show k ≠ gs; omega) _) (fun k h => by have := a2 k h; show k ≠ gs; omega) _) (fun k h => by have := a2 k h; show k ≠ gs; omega) _) (fun k h => by have := a2 k h; show k ≠ gs; omega) _,
    Kd.S_far (p := ⟨gs, 3, none⟩) (Kd.S_far (p := ⟨gs, 2, none⟩) (Kd.S_far (p := ⟨gs, 1, none⟩) (Kd.S_far (p := ⟨gs, 0, none⟩) h3 (fun k h => by have := a3 k h; show k ≠ gs; omega) _) (fun k h => by have := a3 k h; show k ≠ gs; omega) _) (fun k h => by have := a3 k h; show k ≠ gs; omega) _) (fun k h => by have := a3 k h; show k ≠ gs; omega) _⟩
end
/-- Before the tree is begun. -/
def MY (w0 W W' : World) (gm : Nat) (l : List Wn) (A : Option Addr) (c nx : Nat) (gs gn : Nat) (x : Wn) (An : Option Addr) (cn : Nat) : Prop :=
  Mk w0 W' gm l A c nx ∧ Mp W W' gm ∧ W'.heap[gs]? = some (.cells #[.int .i64 0, .slice none 0 0, .slice none 0 0, .slice none 0 0] 28 (0, 0)) ∧ W'.heap[gn]? = some (.cells #[.int .i64 x.f0, .int .i64 x.f1, .slice An x.f2.length cn] 149 (0, 0))
theorem MY.below {w0 W W' W2 : World} {gm : Nat} {l : List Wn} {A : Option Addr} {c nx : Nat} {gs gn : Nat} {x : Wn} {An : Option Addr} {cn : Nat} (h : MY w0 W W' gm l A c nx gs gn x An cn) (hb : Below W'.heap.size W' W2) : MY w0 W W2 gm l A c nx gs gn x An cn :=
  ⟨h.1.below hb, h.2.1.trans (Mp.below gm hb), blk_below h.2.2.1 hb, blk_below h.2.2.2 hb⟩
end Go.Proofs.YtiiolhnpnlmkjaaDoor.Tree
namespace Go.Proofs.YtiiolhnpnlmkjaaDoor.Tree
open Go.RowKit Go.Proofs.YtiiolhnpnlmkjaaDoor.PWkbPrints Go.Proofs.YtiiolhnpnlmkjaaDoorW.PrintWords Go.Proofs.YtiiolhnpnlmkjaaDoorW.PrintLast Go.Proofs.YtiiolhnpnlmkjaaDoorW.PrintMore Go.Proofs.YtiiolhnpnlmkjaaDoor.Rdr
theorem St.drop {b X : List Int} {a : Nat} (h : St b a X) : b.drop a = X ++ b.drop (a + X.length) := by
  obtain ⟨t, h⟩ := h
  rw [← List.drop_drop, h, List.drop_left]
section
variable {b : List Int} (hb : Byt b)
include hb
theorem head_back {a : Nat} {le : Bool} {k : Int} (h : headR b a = .ok (le, k)) : a + 5 ≤ b.length ∧ St b a (bitB le ++ P32 (u32 k) le) ∧ 1 ≤ k ∧ k ≤ 7 := by
  unfold headR at h
  by_cases h1 : b.length < a + 1
  · rw [if_pos h1] at h; cases h
  rw [if_neg h1] at h
  by_cases h2 : 1 < numB b a 1 false % 256
  · rw [if_pos h2] at h; cases h
  rw [if_neg h2] at h
  by_cases h3 : b.length < a + 1 + 4
  · rw [if_pos h3] at h; cases h
  rw [if_neg h3] at h
  obtain ⟨s1, r1, r2⟩ := w8_of (a := a) hb (by omega)
  obtain ⟨le', hle'⟩ : ∃ le', le' = decide (numB b a 1 false % 256 = 1) := ⟨_, rfl⟩
  obtain ⟨s2, r3, r4⟩ := w32_of (a := a + 1) hb (by omega) le'
  rw [← hle'] at h
  by_cases h4 : numB b (a + 1) 4 le' % 4294967296 < 1 ∨ 7 < numB b (a + 1) 4 le' % 4294967296
  · rw [if_pos h4] at h; cases h
  rw [if_neg h4] at h
  injection h with h
  injection h with e1 e2
  subst e1
  have e3 : numB b (a + 1) 4 le' = k := by omega
  rw [e3] at s2
  refine ⟨by omega, ?_, by omega, by omega⟩
  have hu : u32 k = k := by unfold u32; rw [IntKind.wrap_u32]; omega
  rw [hu]
  refine St.join ?_ s2
  have e4 : bitB le' = [numB b a 1 false] := by
    unfold bitB
    rw [hle']
    by_cases c : numB b a 1 false % 256 = 1
    · rw [show decide (numB b a 1 false % 256 = 1) = true from decide_eq_true c, if_pos rfl]
      congr 1
      omega
    · rw [show decide (numB b a 1 false % 256 = 1) = false from decide_eq_false c, if_neg (by decide)]
      congr 1
      omega
  rw [e4]
  exact s1
theorem count_back {p m least : Nat} {le : Bool} (h : countR b p le least = .ok m) : p + 4 + m * least ≤ b.length ∧ m < 4294967296 ∧ St b p (P32 (u32 m) le) := by
  unfold countR at h
  by_cases h1 : b.length < p + 4
  · rw [if_pos h1] at h; cases h
  rw [if_neg h1] at h
  by_cases h2 : b.length < p + 4 + (numB b p 4 le % 4294967296).toNat * least
  · rw [if_pos h2] at h; cases h
  rw [if_neg h2] at h
  injection h with h
  obtain ⟨s1, r1, r2⟩ := w32_of (a := p) hb (by omega) le
  rw [h] at h2
  have e : numB b p 4 le = (m : Int) := by omega
  rw [e] at s1
  have hu : u32 (m : Int) = m := by unfold u32; rw [IntKind.wrap_u32]; omega
  rw [hu]
  exact ⟨by omega, by omega, s1⟩
theorem rg_at {p : Nat} {le : Bool} (h : p + 16 ≤ b.length) : Rg ⟨numB b p 8 le, numB b (p + 8) 8 le⟩ ∧ St b p (ptB le ⟨numB b p 8 le, numB b (p + 8) 8 le⟩) := by
  obtain ⟨s1, r1⟩ := w64_of (a := p) hb (by omega) le
  obtain ⟨s2, r2⟩ := w64_of (a := p + 8) hb (by omega) le
  refine ⟨⟨r1, r2⟩, St.join s1 ?_⟩
  rw [P64_len]
  exact s2
theorem place_back {p : Nat} {le : Bool} {l : List Pt} (h : placeR b p le = .ok l) : p + 16 ≤ b.length ∧ l.length ≤ 1 ∧ finL l = true ∧ (∀ q ∈ l, Rg q) ∧ (l ≠ [] → St b p (ptsB le l)) := by
  unfold placeR at h
  by_cases h1 : b.length < p + 8
  · rw [if_pos h1] at h; cases h
  rw [if_neg h1] at h
  by_cases h2 : b.length < p + 8 + 8
  · rw [if_pos h2] at h; cases h
  rw [if_neg h2] at h
  have h16 : p + 16 ≤ b.length := by omega
  obtain ⟨hr, hs⟩ := rg_at hb (le := le) h16
  generalize numB b p 8 le = x at *
  generalize numB b (p + 8) 8 le = y at *
  by_cases h3 : classOf x = 4 ∧ classOf y = 4
  · rw [if_pos h3] at h
    injection h with h
    subst h
    exact ⟨h16, by simp, rfl, by simp, fun h => absurd rfl h⟩
  rw [if_neg h3] at h
  by_cases h4 : 3 ≤ classOf x
  · rw [if_pos h4] at h; cases h
  rw [if_neg h4] at h
  by_cases h5 : 3 ≤ classOf y
  · rw [if_pos h5] at h; cases h
  rw [if_neg h5] at h
  injection h with h
  subst h
  refine ⟨h16, Nat.le_refl _, ?_, ?_, fun _ => ?_⟩
  · unfold finL finLC finC
    rw [List.all_cons, List.all_nil]
    simp only [Bool.and_true, Bool.and_eq_true, decide_eq_true_iff]
    exact ⟨le2 h4, le2 h5⟩
  · intro q hq
    rw [List.mem_singleton.1 hq]
    exact hr
  · rw [ptsB_cons, ptsB_nil, List.append_nil]
    exact hs
omit hb in
theorem none_bad {c : List Int} {a : Nat} {le : Bool} : ∀ (m i : Nat), badFrom c a le m i = none → ∀ j, i ≤ j → j < i + m → classOf (numB c (a + 16 * j) 8 le) ≤ 2 ∧ classOf (numB c (a + 16 * j + 8) 8 le) ≤ 2 := by
  intro m
  induction m with
  | zero => intro i _ j h1 h2; omega
  | succ m ih =>
    intro i h j h1 h2
    rw [badFrom] at h
    by_cases c1 : 3 ≤ classOf (numB c (a + 16 * i) 8 le)
    · rw [if_pos c1] at h; cases h
    rw [if_neg c1] at h
    by_cases c2 : 3 ≤ classOf (numB c (a + 16 * i + 8) 8 le)
    · rw [if_pos c2] at h; cases h
    rw [if_neg c2] at h
    by_cases e : j = i
    · subst e
      exact ⟨le2 c1, le2 c2⟩
    · exact ih (i + 1) h j (by omega) (by omega)
omit hb in
theorem ptsB_app (le : Bool) (l m : List Pt) : ptsB le (l ++ m) = ptsB le l ++ ptsB le m := by unfold ptsB; rw [List.flatMap_append]
theorem pts_st {p : Nat} {le : Bool} : ∀ (m : Nat), p + 16 * m ≤ b.length → St b p (ptsB le (ptsAt b p le m)) := by
  intro m
  induction m with
  | zero => intro _; exact ⟨_, rfl⟩
  | succ m ih =>
    intro h
    have e : ptsAt b p le (m + 1) = ptsAt b p le m ++ [ptAt b p le m] := by unfold ptsAt; rw [List.range_succ, List.map_append]; rfl
    rw [e, ptsB_app]
    refine St.join (ih (by omega)) ?_
    rw [ptsB_len, ptsAt_len, ptsB_cons, ptsB_nil, List.append_nil]
    exact (rg_at hb (by omega)).2
theorem points_back {p m : Nat} {le : Bool} {l : List Pt} (h : pointsR b p le m = .ok l) (hp : p + 16 * m ≤ b.length) : l.length = m ∧ finL l = true ∧ (∀ q ∈ l, Rg q) ∧ St b p (ptsB le l) := by
  have hl := pointsR_len h
  unfold pointsR at h
  rcases hn : badFrom b p le m 0 with _ | x
  · rw [hn] at h
    dsimp only at h
    injection h with h
    have hcl := none_bad m 0 hn
    subst h
    refine ⟨hl, ?_, ?_, pts_st hb m hp⟩
    · unfold finL finLC finC
      rw [List.all_eq_true]
      intro q hq
      obtain ⟨i, hi, rfl⟩ := List.mem_map.1 hq
      have := hcl i (by omega) (by have := List.mem_range.1 hi; omega)
      simp only [Bool.and_eq_true, ptAt]
      exact ⟨decide_eq_true this.1, decide_eq_true this.2⟩
    · intro q hq
      obtain ⟨i, hi, rfl⟩ := List.mem_map.1 hq
      have hi' := List.mem_range.1 hi
      exact (rg_at hb (by omega)).1
  · rw [hn] at h
    cases h
theorem ring_back {p : Nat} {le : Bool} {r : List Pt} (h : ringR b p le = .ok r) : p + (4 + 16 * r.length) ≤ b.length ∧ r ≠ [] ∧ finL r = true ∧ (∀ q ∈ r, Rg q) ∧ St b p (ringB le r) := by
  unfold ringR at h
  by_cases h1 : b.length < p + 4
  · rw [if_pos h1] at h; cases h
  rw [if_neg h1] at h
  by_cases h2 : numB b p 4 le % 4294967296 = 0
  · rw [if_pos h2] at h; cases h
  rw [if_neg h2] at h
  by_cases h3 : b.length < p + 4 + 16 * (numB b p 4 le % 4294967296).toNat
  · rw [if_pos h3] at h; cases h
  rw [if_neg h3] at h
  obtain ⟨s1, r1, r2⟩ := w32_of (a := p) hb (by omega) le
  obtain ⟨m, hm⟩ : ∃ m, m = (numB b p 4 le % 4294967296).toNat := ⟨_, rfl⟩
  rw [← hm] at h h3
  have e : numB b p 4 le = (m : Int) := by omega
  obtain ⟨q1, q2, q3, q4⟩ := points_back hb h (by omega)
  rw [e, ← q1] at s1
  have hu : u32 (r.length : Int) = r.length := by unfold u32; rw [IntKind.wrap_u32]; omega
  refine ⟨by omega, fun h0 => ?_, q2, q3, ?_⟩
  · subst h0
    simp at q1
    omega
  · unfold ringB
    rw [hu]
    refine St.join s1 ?_
    rw [P32_len]
    exact q4
theorem rings_back {le : Bool} : ∀ (m p : Nat) (l : List (List Pt)) (p' : Nat), ringsR b le m p = .ok (l, p') → p ≤ b.length →
    l.length = m ∧ p' ≤ b.length ∧ p' = p + (ringsB le l).length ∧ (∀ r ∈ l, r ≠ [] ∧ finL r = true ∧ ∀ q ∈ r, Rg q) ∧ St b p (ringsB le l) := by
  intro m
  induction m with
  | zero =>
    intro p l p' h hp
    rw [ringsR] at h
    injection h with h
    injection h with h1 h2
    subst h1 h2
    exact ⟨rfl, hp, rfl, by simp, ⟨_, rfl⟩⟩
  | succ m ih =>
    intro p l p' h hp
    rw [ringsR] at h
    rcases h1 : ringR b p le with e | r
    · rw [h1] at h; cases h
    · rw [h1] at h
      dsimp only at h
      rcases h2 : ringsR b le m (p + 4 + 16 * r.length) with e | ⟨l2, p2⟩
      · rw [h2] at h; cases h
      · rw [h2] at h
        injection h with h
        injection h with h3 h4
        dsimp only at h3 h4
        subst h3 h4
        obtain ⟨q1, q2, q3, q4, q5⟩ := ring_back hb h1
        obtain ⟨t1, t2, t3, t4, t5⟩ := ih _ _ _ h2 (by omega)
        refine ⟨by rw [List.length_cons, t1], t2, ?_, ?_, ?_⟩
        · rw [ringsB_cons, List.length_append, ringB_len]
          omega
        · intro r' hr'
          rcases List.mem_cons.1 hr' with rfl | hr'
          · exact ⟨q2, q3, q4⟩
          · exact t4 r' hr'
        · rw [ringsB_cons]
          refine St.join q5 ?_
          rw [ringB_len, ← Nat.add_assoc]
          exact t5
end
def putAt (b : List Int) (p : Nat) (v : List Int) : List Int := b.take p ++ (v ++ b.drop (p + v.length))
mutual
/-- What the finder makes of bytes at a place, led by a tree. -/
def walkG : Ge → List Int × Nat → List Int × Nat
  | ⟨k, l, r, ps⟩, s =>
    if k = 1 then (if l.length = 0 then putAt s.1 (s.2 + 5) (ptB (decide (s.1.getD s.2 0 = 1)) nanP) else s.1, s.2 + 5 + 16)
    else if k = 2 then (s.1, s.2 + 5 + (4 + 16 * l.length))
    else if k = 3 then (s.1, s.2 + 5 + (4 + (4 * r.length + 16 * r.flatten.length)))
    else walkL ps (s.1, s.2 + 5 + 4)
def walkL : List Ge → List Int × Nat → List Int × Nat
  | [], s => s
  | p :: ps, s => walkL ps (walkG p s)
end
theorem walkG_eq (g : Ge) (s : List Int × Nat) : walkG g s = if g.f0 = 1 then (if g.f1.length = 0 then putAt s.1 (s.2 + 5) (ptB (decide (s.1.getD s.2 0 = 1)) nanP) else s.1, s.2 + 5 + 16)
    else if g.f0 = 2 then (s.1, s.2 + 5 + (4 + 16 * g.f1.length))
    else if g.f0 = 3 then (s.1, s.2 + 5 + (4 + (4 * g.f2.length + 16 * g.f2.flatten.length)))
    else walkL g.f3 (s.1, s.2 + 5 + 4) := by
  cases g; simp only [walkG]
structure Bk (b : List Int) (deep : Int) (a : Nat) (lvl o : Int) (g : Ge) (a' : Nat) (os' : List Bool) : Prop where
  e : a' ≤ b.length
  G : AllG g lvl o
  d : ∀ x ∈ nodes g lvl o, x.f1 ≤ deep
  o : os'.length = cntG g
  u : g.bulk + a ≤ a'
  k : ∀ os n, ords os n (cntG g) = os' → a + (geoB os g n).length = a' ∧ ∀ pre : List Int, pre.length = a → walkG g (pre ++ b.drop a, a) = ((pre ++ geoB os g n) ++ b.drop a', a')
structure BkL (b : List Int) (deep : Int) (a : Nat) (lvl o : Int) (l : List Ge) (a' : Nat) (os' : List Bool) : Prop where
  e : a' ≤ b.length
  G : ∀ p ∈ l, AllG p lvl o
  d : ∀ p ∈ l, ∀ x ∈ nodes p lvl o, x.f1 ≤ deep
  o : os'.length = cntL l
  u : bulks l + a ≤ a'
  k : ∀ os n, ords os n (cntL l) = os' → a + (partsB os l n).length = a' ∧ ∀ pre : List Int, pre.length = a → walkL l (pre ++ b.drop a, a) = ((pre ++ partsB os l n) ++ b.drop a', a')
theorem parts_back {b : List Int} {deep lvl o : Int} (f : Nat → Except (Int × Int) (Ge × Nat × List Bool)) (hf : ∀ a g a' os', f a = .ok (g, a', os') → a ≤ b.length → Bk b deep a lvl o g a' os') :
    ∀ (m a : Nat) (l : List Ge) (a' : Nat) (os' : List Bool), partsR f m a = .ok (l, a', os') → a ≤ b.length → l.length = m ∧ BkL b deep a lvl o l a' os' := by
  intro m
  induction m with
  | zero =>
    intro a l a' os' h ha
    rw [partsR] at h
    injection h with h
    injection h with h1 h
    injection h with h2 h3
    subst h1 h2 h3
    refine ⟨rfl, ha, by simp, by simp, by simp [cntL], by simp [bulks], fun os n _ => ⟨by simp [partsB], fun pre hp => ?_⟩⟩
    rw [walkL, partsB, List.append_nil]
  | succ m ih =>
    intro a l a' os' h ha
    rw [partsR] at h
    rcases h1 : f a with e | ⟨g, a2, o2⟩
    · rw [h1] at h; cases h
    · rw [h1] at h
      dsimp only at h
      rcases h2 : partsR f m a2 with e | ⟨l2, a3, o3⟩
      · rw [h2] at h; cases h
      · rw [h2] at h
        injection h with h
        injection h with h3 h
        injection h with h4 h5
        dsimp only at h3 h4 h5
        subst h3 h4 h5
        have k1 := hf _ _ _ _ h1 ha
        obtain ⟨e1, k2⟩ := ih _ _ _ _ h2 k1.e
        refine ⟨by rw [List.length_cons, e1], k2.e, ?_, ?_, ?_, ?_, ?_⟩
        · intro p hp
          rcases List.mem_cons.1 hp with rfl | hp
          · exact k1.G
          · exact k2.G p hp
        · intro p hp
          rcases List.mem_cons.1 hp with rfl | hp
          · exact k1.d
          · exact k2.d p hp
        · rw [List.length_append, k1.o, k2.o, cntL]
        · have := k1.u
          have := k2.u
          rw [bulks]
          omega
        · intro os n ho
          rw [cntL, ords_add] at ho
          obtain ⟨o1, o2⟩ := List.append_inj ho (by rw [ords_len, k1.o])
          obtain ⟨j1, j2⟩ := k1.k os n o1
          obtain ⟨j3, j4⟩ := k2.k os (n + cntG g) o2
          refine ⟨by rw [partsB, List.length_append]; omega, fun pre hp => ?_⟩
          rw [walkL, j2 pre hp, j4 (pre ++ geoB os g n) (by rw [List.length_append, hp, j1]), partsB]
          simp only [List.append_assoc]
theorem bit_at {b : List Int} {a : Nat} {le : Bool} {Y : List Int} {pre : List Int} (hp : pre.length = a) : decide (((pre ++ (bitB le ++ Y)) : List Int).getD a 0 = 1) = le := by
  subst hp
  have : (pre ++ (bitB le ++ Y)).getD pre.length 0 = if le = true then 1 else 0 := by
    rw [List.getD_eq_getElem?_getD, List.getElem?_append_right (Nat.le_refl _), Nat.sub_self]
    rfl
  rw [this]
  cases le <;> rfl
theorem putAt_at {pre H v w t : List Int} {a : Nat} (hp : pre.length = a) (hv : v.length = w.length) : putAt (pre ++ (H ++ (v ++ t))) (a + H.length) w = pre ++ (H ++ (w ++ t)) := by
  subst hp
  unfold putAt
  have e1 : (pre ++ (H ++ (v ++ t))).take (pre.length + H.length) = pre ++ H := by
    rw [← List.append_assoc, ← List.length_append, List.take_left]
  have e2 : (pre ++ (H ++ (v ++ t))).drop (pre.length + H.length + w.length) = t := by
    rw [← hv, ← List.append_assoc, ← List.append_assoc, ← List.length_append, ← List.length_append, List.drop_left]
  rw [e1, e2, List.append_assoc]
theorem gd_mk {g : Ge} {lvl o : Int} (h1 : shapedB ⟨g, lvl, o⟩ = true) (h2 : finL (own g) = true) (h3 : ∀ q ∈ own g, Rg q) (h4 : ∀ p ∈ g.f3, AllG p (lvl + 1) g.f0) : AllG g lvl o := by
  intro x hx
  rw [nodes_eq] at hx
  rcases List.mem_cons.1 hx with rfl | hx
  · exact ⟨h1, h2, h3⟩
  · rw [nodesL_flat] at hx
    obtain ⟨l, hl, hx⟩ := List.mem_flatten.1 hx
    obtain ⟨p, hp, rfl⟩ := List.mem_map.1 hl
    exact h4 p hp x hx
theorem deep_mk {g : Ge} {lvl o deep : Int} (h1 : lvl ≤ deep) (h4 : ∀ p ∈ g.f3, ∀ x ∈ nodes p (lvl + 1) g.f0, x.f1 ≤ deep) : ∀ x ∈ nodes g lvl o, x.f1 ≤ deep := by
  intro x hx
  rw [nodes_eq] at hx
  rcases List.mem_cons.1 hx with rfl | hx
  · exact h1
  · rw [nodesL_flat] at hx
    obtain ⟨l, hl, hx⟩ := List.mem_flatten.1 hx
    obtain ⟨p, hp, rfl⟩ := List.mem_map.1 hl
    exact h4 p hp x hx
theorem shaped_mk {k o lvl : Int} {l : List Pt} {r : List (List Pt)} {ps : List Ge} (hk : 1 ≤ k ∧ k ≤ 7) (hf : fitsB k o = true) (h1 : 2 < k → l = []) (h2 : k ≠ 3 → r = []) (h3 : k < 4 → ps = []) (h4 : ∀ x ∈ r, x ≠ []) (h5 : k = 1 → l.length ≤ 1) : shapedB ⟨⟨k, l, r, ps⟩, lvl, o⟩ = true := by
  unfold shapedB kindB lacksB
  simp only [Bool.and_eq_true, Bool.or_eq_true, decide_eq_true_iff, Bool.not_eq_true', Bool.or_eq_false_iff, Bool.and_eq_false_iff, decide_eq_false_iff_not, List.all_eq_true]
  refine ⟨hk, hf, ⟨?_, ?_, ?_⟩, ?_, ?_⟩
  · by_cases c : 2 < k
    · rw [h1 c]; simp
    · exact .inr c
  · by_cases c : k = 3
    · exact .inr (by simpa using c)
    · rw [h2 c]; simp
  · by_cases c : k < 4
    · rw [h3 c]; simp
    · exact .inr c
  · intro x hx
    have := h4 x hx
    cases x
    · exact absurd rfl this
    · rfl
  · by_cases c : k = 1
    · exact .inr (h5 c)
    · exact .inl c
theorem back_of {b : List Int} (hb : Byt b) (deep : Int) (fuel : Nat) : ∀ (a : Nat) (lvl o : Int) (g : Ge) (a' : Nat) (os' : List Bool), geomR b deep fuel a lvl o = .ok (g, a', os') → a ≤ b.length → HomeOk o → Bk b deep a lvl o g a' os' := by
  induction fuel with
  | zero => intro a lvl o g a' os' h; cases h
  | succ fu ih =>
    intro a lvl o g a' os' h ha ho
    rw [geomR_eq] at h
    rcases hh : headR b a with e | ⟨le, k⟩
    · rw [hh] at h; cases h
    rw [hh] at h
    dsimp only at h
    obtain ⟨h5, hst, hk⟩ := head_back hb hh
    rw [home_fits hk ho] at h
    by_cases hf : fitsB k o = false
    · rw [if_pos hf] at h; cases h
    rw [if_neg hf] at h
    rw [Bool.not_eq_false] at hf
    by_cases hd : deep < lvl
    · rw [if_pos hd] at h; cases h
    rw [if_neg hd, show a + 1 + 4 = a + 5 from rfl] at h
    have hl5 : (bitB le ++ P32 (u32 k) le).length = 5 := by rw [List.length_append, P32_len]; rfl
    have hdr := hst.drop
    rw [hl5] at hdr
    unfold bodyR at h
    by_cases k1 : k = 1
    · rw [if_pos k1] at h
      rcases hp : placeR b (a + 5) le with e | l
      · rw [hp] at h; cases h
      rw [hp] at h
      injection h with h
      injection h with e1 h
      injection h with e2 e3
      subst e1 e2 e3
      obtain ⟨p1, p2, p3, p4, p5⟩ := place_back hb hp
      have hcn : cntG (⟨k, l, [], []⟩ : Ge) = 1 := by rw [cntG_eq, if_pos (.inl k1)]
      refine ⟨p1, gd_mk (shaped_mk hk hf (by omega) (fun _ => rfl) (fun _ => rfl) (by simp) (fun _ => p2)) (by simpa [own] using p3) (by simpa [own] using p4) (by simp), deep_mk (by omega) (by simp), by rw [hcn]; rfl, by rw [Ge.bulk_eq]; simp [bulks]; omega, fun os n ho => ?_⟩
      rw [hcn, ords_one] at ho
      injection ho with ho
      have hX : geoB os (⟨k, l, [], []⟩ : Ge) n = (bitB le ++ P32 (u32 k) le) ++ (if l.length = 0 then ptsB le [nanP] else ptsB le l) := by
        rw [geoB_eq, ho, if_pos k1, List.append_assoc]
      have hl16 : (if l.length = 0 then ptsB le [nanP] else ptsB le l).length = 16 := by
        split
        · rw [ptsB_len]; rfl
        · rw [ptsB_len]; omega
      refine ⟨by rw [hX, List.length_append, hl5, hl16], fun pre hpre => ?_⟩
      rw [walkG_eq, hX, if_pos k1]
      dsimp only
      rw [hdr]
      by_cases hl0 : l.length = 0
      · rw [if_pos hl0, if_pos hl0]
        have h16 : b.drop (a + 5) = (b.drop (a + 5)).take 16 ++ b.drop (a + 5 + 16) := (List.take_append_drop 16 (b.drop (a + 5))).symm.trans (by rw [List.drop_drop])
        have hbit : decide ((pre ++ (bitB le ++ P32 (u32 k) le ++ b.drop (a + 5))).getD a 0 = 1) = le := by
          rw [List.append_assoc]
          exact bit_at (b := b) hpre
        rw [hbit]
        conv => lhs; rw [h16]
        have hpa := putAt_at (pre := pre) (H := bitB le ++ P32 (u32 k) le) (v := (b.drop (a + 5)).take 16) (w := ptB le nanP) (t := b.drop (a + 5 + 16)) hpre (by rw [ptB_len, List.length_take, List.length_drop]; omega)
        rw [hl5] at hpa
        rw [hpa, ptsB_cons, ptsB_nil, List.append_nil]
        simp only [List.append_assoc]
      · rw [if_neg hl0, if_neg hl0]
        have h9 := (p5 (fun e => hl0 (by rw [e]; rfl))).drop
        rw [if_neg hl0] at hl16
        rw [hl16] at h9
        rw [h9]
        simp only [List.append_assoc]
    rw [if_neg k1] at h
    by_cases k2 : k = 2
    · rw [if_pos k2] at h
      rcases hc : countR b (a + 5) le 16 with e | m
      · rw [hc] at h; cases h
      rw [hc] at h
      dsimp only at h
      obtain ⟨c1, c2, c3⟩ := count_back hb hc
      rcases hp : pointsR b (a + 5 + 4) le m with e | l
      · rw [hp] at h; cases h
      rw [hp] at h
      injection h with h
      injection h with e1 h
      injection h with e2 e3
      subst e1 e2 e3
      obtain ⟨p2, p3, p4, p5⟩ := points_back hb hp (by omega)
      have hcn : cntG (⟨k, l, [], []⟩ : Ge) = 1 := by rw [cntG_eq, if_pos (.inr (.inl k2))]
      refine ⟨by omega, gd_mk (shaped_mk hk hf (by omega) (fun _ => rfl) (fun _ => rfl) (by simp) (fun h => absurd h k1)) (by simpa [own] using p3) (by simpa [own] using p4) (by simp), deep_mk (by omega) (by simp), by rw [hcn]; rfl, by rw [Ge.bulk_eq]; simp [bulks]; omega, fun os n ho => ?_⟩
      rw [hcn, ords_one] at ho
      injection ho with ho
      have hX : geoB os (⟨k, l, [], []⟩ : Ge) n = (bitB le ++ P32 (u32 k) le) ++ (P32 (u32 l.length) le ++ ptsB le l) := by
        rw [geoB_eq, ho, if_neg k1, if_pos k2, List.append_assoc]
      rw [p2] at hX
      refine ⟨by rw [hX, List.length_append, hl5, List.length_append, P32_len, ptsB_len, p2]; omega, fun pre hpre => ?_⟩
      rw [walkG_eq, hX, if_neg k1, if_pos k2]
      dsimp only
      have h9 := c3.drop
      rw [P32_len] at h9
      have h10 := p5.drop
      rw [ptsB_len, p2] at h10
      rw [hdr, h9, h10, p2, show a + 5 + (4 + 16 * m) = a + 5 + 4 + 16 * m from by omega]
      simp only [List.append_assoc]
    rw [if_neg k2] at h
    by_cases k3 : k = 3
    · rw [if_pos k3] at h
      rcases hc : countR b (a + 5) le 20 with e | m
      · rw [hc] at h; cases h
      rw [hc] at h
      dsimp only at h
      obtain ⟨c1, c2, c3⟩ := count_back hb hc
      rcases hp : ringsR b le m (a + 5 + 4) with e | ⟨l, p'⟩
      · rw [hp] at h; cases h
      rw [hp] at h
      injection h with h
      injection h with e1 h
      injection h with e2 e3
      dsimp only at e1 e2 e3
      subst e1 e2 e3
      obtain ⟨p2, p3, p4, p5, p6⟩ := rings_back hb _ _ _ _ hp (by omega)
      have hcn : cntG (⟨k, [], l, []⟩ : Ge) = 1 := by rw [cntG_eq, if_pos (.inr (.inr k3))]
      have hrl := ringsB_len le l
      refine ⟨p3, gd_mk (shaped_mk hk hf (fun _ => rfl) (fun h => absurd k3 h) (fun _ => rfl) (fun r hr => (p5 r hr).1) (fun h => absurd h k1)) ?_ ?_ (by simp), deep_mk (by omega) (by simp), by rw [hcn]; rfl, by rw [Ge.bulk_eq]; simp only [bulks, List.length_nil]; omega, fun os n ho => ?_⟩
      · rw [finL_own, Bool.and_eq_true, List.all_eq_true]
        exact ⟨rfl, fun r hr => (p5 r hr).2.1⟩
      · intro q hq
        unfold own at hq
        rw [List.nil_append] at hq
        obtain ⟨r, hr, hq⟩ := List.mem_flatten.1 hq
        exact (p5 r hr).2.2 q hq
      rw [hcn, ords_one] at ho
      injection ho with ho
      have hX : geoB os (⟨k, [], l, []⟩ : Ge) n = (bitB le ++ P32 (u32 k) le) ++ (P32 (u32 l.length) le ++ ringsB le l) := by
        rw [geoB_eq, ho, if_neg k1, if_neg k2, if_pos k3, List.append_assoc]
      rw [p2] at hX
      refine ⟨by rw [hX, List.length_append, hl5, List.length_append, P32_len]; omega, fun pre hpre => ?_⟩
      rw [walkG_eq, hX, if_neg k1, if_neg k2, if_pos k3]
      dsimp only
      have h9 := c3.drop
      rw [P32_len] at h9
      have h10 := p6.drop
      rw [← p4] at h10
      rw [hdr, h9, h10, ← hrl, show a + 5 + (4 + (ringsB le l).length) = p' from by omega]
      simp only [List.append_assoc]
    rw [if_neg k3] at h
    rcases hc : countR b (a + 5) le (if k = 4 then 21 else 9) with e | m
    · rw [hc] at h; cases h
    rw [hc] at h
    dsimp only at h
    obtain ⟨c1, c2, c3⟩ := count_back hb hc
    rcases hp : partsR (fun q => geomR b deep fu q (lvl + 1) k) m (a + 5 + 4) with e | ⟨l, p', o'⟩
    · rw [hp] at h; cases h
    rw [hp] at h
    injection h with h
    injection h with e1 h
    injection h with e2 e3
    dsimp only at e1 e2 e3
    subst e1 e2 e3
    obtain ⟨p2, p3⟩ := parts_back (fun q => geomR b deep fu q (lvl + 1) k) (fun a g a' os' h ha => ih a (lvl + 1) k g a' os' h ha (.inr (by omega))) _ _ _ _ _ hp (by omega)
    have hcn : cntG (⟨k, [], [], l⟩ : Ge) = 1 + cntL l := by rw [cntG_eq, if_neg (by show ¬ (k = 1 ∨ k = 2 ∨ k = 3); omega)]
    have hu := p3.u
    refine ⟨p3.e, gd_mk (shaped_mk hk hf (fun _ => rfl) (fun _ => rfl) (fun h => by omega) (by simp) (fun h => absurd h k1)) rfl (by simp [own]) p3.G, deep_mk (by omega) p3.d, by rw [hcn, List.length_cons, p3.o]; omega, by rw [Ge.bulk_eq]; simp; omega, fun os n ho => ?_⟩
    rw [hcn, ords_add, ords_one] at ho
    injection ho with ho ho2
    have hX : geoB os (⟨k, [], [], l⟩ : Ge) n = (bitB le ++ P32 (u32 k) le) ++ (P32 (u32 l.length) le ++ partsB os l (n + 1)) := by
      rw [geoB_eq, ho, if_neg k1, if_neg k2, if_neg k3, List.append_assoc]
    rw [p2] at hX
    obtain ⟨j1, j2⟩ := p3.k os (n + 1) ho2
    refine ⟨by rw [hX, List.length_append, hl5, List.length_append, P32_len]; omega, fun pre hpre => ?_⟩
    rw [walkG_eq, hX, if_neg k1, if_neg k2, if_neg k3]
    dsimp only
    have h9 := c3.drop
    rw [P32_len] at h9
    have j3 := j2 (pre ++ ((bitB le ++ P32 (u32 k) le) ++ P32 (u32 m) le)) (by rw [List.length_append, List.length_append, hl5, P32_len]; omega)
    have e9 : pre ++ b.drop a = (pre ++ ((bitB le ++ P32 (u32 k) le) ++ P32 (u32 m) le)) ++ b.drop (a + 5 + 4) := by
      rw [hdr, h9]
      simp only [List.append_assoc]
    rw [e9, j3]
    simp only [List.append_assoc]
theorem bad_at {c : List Int} {a : Nat} {le : Bool} : ∀ (m i : Nat) (x : Int), badFrom c a le m i = some x → ∃ y : Nat, x = (y : Int) ∧ a + 16 * i ≤ y ∧ y < a + 16 * (i + m) := by
  intro m
  induction m with
  | zero => intro i x h; cases h
  | succ m ih =>
    intro i x h
    rw [badFrom] at h
    by_cases c1 : 3 ≤ classOf (numB c (a + 16 * i) 8 le)
    · rw [if_pos c1] at h
      injection h with h
      exact ⟨_, h.symm, by omega, by omega⟩
    rw [if_neg c1] at h
    by_cases c2 : 3 ≤ classOf (numB c (a + 16 * i + 8) 8 le)
    · rw [if_pos c2] at h
      injection h with h
      exact ⟨_, h.symm, by omega, by omega⟩
    rw [if_neg c2] at h
    obtain ⟨y, h1, h2, h3⟩ := ih (i + 1) x h
    exact ⟨y, h1, by omega, by omega⟩
/-- An error's place lies between two. -/
def Gone {α : Type} (r : Except (Int × Int) α) (a e : Nat) : Prop := ∀ x, r = .error x → (a : Int) ≤ x.1 ∧ x.1 ≤ e
theorem Gone.map {α β : Type} {r : Except (Int × Int) α} {a e : Nat} (h : Gone r a e) (f : α → β) : Gone (r.map f) a e := by
  intro x hx
  cases r with
  | error y => injection hx with hx; exact h x (by rw [hx])
  | ok v => cases hx
theorem Gone.mono {α : Type} {r : Except (Int × Int) α} {a a' e : Nat} (h : Gone r a' e) (ha : a ≤ a') : Gone r a e := by
  intro x hx
  have := h x hx
  omega
theorem count_gone {b : List Int} {p least : Nat} {le : Bool} (hp : p ≤ b.length) : Gone (countR b p le least) p b.length := by
  intro x hx
  unfold countR at hx
  by_cases h1 : b.length < p + 4
  · rw [if_pos h1] at hx; injection hx with hx; subst hx; exact ⟨Int.le_refl _, by show (p : Int) ≤ _; omega⟩
  rw [if_neg h1] at hx
  by_cases h2 : b.length < p + 4 + (numB b p 4 le % 4294967296).toNat * least
  · rw [if_pos h2] at hx; injection hx with hx; subst hx; exact ⟨Int.le_refl _, by show (p : Int) ≤ _; omega⟩
  rw [if_neg h2] at hx
  cases hx
theorem points_gone {b : List Int} {p m : Nat} {le : Bool} (hp : p + 16 * m ≤ b.length) : Gone (pointsR b p le m) p b.length := by
  intro x hx
  unfold pointsR at hx
  rcases hn : badFrom b p le m 0 with _ | y
  · rw [hn] at hx; cases hx
  · rw [hn] at hx
    injection hx with hx
    subst hx
    obtain ⟨z, rfl, h1, h2⟩ := bad_at m 0 y hn
    exact ⟨by show (p : Int) ≤ (z : Int); omega, by show (z : Int) ≤ _; omega⟩
theorem place_gone {b : List Int} {p : Nat} {le : Bool} (hp : p ≤ b.length) : Gone (placeR b p le) p b.length := by
  intro x hx
  unfold placeR at hx
  by_cases h1 : b.length < p + 8
  · rw [if_pos h1] at hx; injection hx with hx; subst hx; exact ⟨Int.le_refl _, by show (p : Int) ≤ _; omega⟩
  rw [if_neg h1] at hx
  by_cases h2 : b.length < p + 8 + 8
  · rw [if_pos h2] at hx; injection hx with hx; subst hx; exact ⟨by show (p : Int) ≤ ((p + 8 : Nat) : Int); omega, by show ((p + 8 : Nat) : Int) ≤ _; omega⟩
  rw [if_neg h2] at hx
  by_cases h3 : classOf (numB b p 8 le) = 4 ∧ classOf (numB b (p + 8) 8 le) = 4
  · rw [if_pos h3] at hx; cases hx
  rw [if_neg h3] at hx
  by_cases h4 : 3 ≤ classOf (numB b p 8 le)
  · rw [if_pos h4] at hx; injection hx with hx; subst hx; exact ⟨Int.le_refl _, by show (p : Int) ≤ _; omega⟩
  rw [if_neg h4] at hx
  by_cases h5 : 3 ≤ classOf (numB b (p + 8) 8 le)
  · rw [if_pos h5] at hx; injection hx with hx; subst hx; exact ⟨by show (p : Int) ≤ ((p + 8 : Nat) : Int); omega, by show ((p + 8 : Nat) : Int) ≤ _; omega⟩
  rw [if_neg h5] at hx
  cases hx
theorem ring_gone {b : List Int} {p : Nat} {le : Bool} (hp : p ≤ b.length) : Gone (ringR b p le) p b.length := by
  intro x hx
  unfold ringR at hx
  by_cases h1 : b.length < p + 4
  · rw [if_pos h1] at hx; injection hx with hx; subst hx; exact ⟨Int.le_refl _, by show (p : Int) ≤ _; omega⟩
  rw [if_neg h1] at hx
  by_cases h2 : numB b p 4 le % 4294967296 = 0
  · rw [if_pos h2] at hx; injection hx with hx; subst hx; exact ⟨Int.le_refl _, by show (p : Int) ≤ _; omega⟩
  rw [if_neg h2] at hx
  by_cases h3 : b.length < p + 4 + 16 * (numB b p 4 le % 4294967296).toNat
  · rw [if_pos h3] at hx; injection hx with hx; subst hx; exact ⟨Int.le_refl _, by show (p : Int) ≤ _; omega⟩
  rw [if_neg h3] at hx
  exact (points_gone (p := p + 4) (by omega)).mono (by omega) x hx
theorem rings_gone {b : List Int} (hb : Byt b) {le : Bool} : ∀ (m p : Nat), p ≤ b.length → Gone (ringsR b le m p) p b.length := by
  intro m
  induction m with
  | zero => intro p _ x hx; cases hx
  | succ m ih =>
    intro p hp x hx
    rw [ringsR] at hx
    rcases h1 : ringR b p le with e | r
    · rw [h1] at hx
      injection hx with hx
      exact ring_gone hp x (by rw [h1, hx])
    · rw [h1] at hx
      have h2 := ring_back hb h1
      exact ((ih (p + 4 + 16 * r.length) (by omega)).map (fun r_ => (r :: r_.1, r_.2))).mono (by omega) x hx
theorem parts_gone {b : List Int} (f : Nat → Except (Int × Int) (Ge × Nat × List Bool)) (h1 : ∀ a, a ≤ b.length → Gone (f a) a b.length) (h2 : ∀ a, a ≤ b.length → ∀ g, f a = .ok g → a ≤ g.2.1 ∧ g.2.1 ≤ b.length) : ∀ (m a : Nat), a ≤ b.length → Gone (partsR f m a) a b.length := by
  intro m
  induction m with
  | zero => intro p _ x hx; cases hx
  | succ m ih =>
    intro a ha x hx
    rw [partsR] at hx
    rcases h3 : f a with e | g
    · rw [h3] at hx
      injection hx with hx
      exact h1 a ha x (by rw [h3, hx])
    · rw [h3] at hx
      have h4 := h2 a ha g h3
      exact ((ih g.2.1 h4.2).map (fun r => (g.1 :: r.1, r.2.1, g.2.2 ++ r.2.2))).mono h4.1 x hx
theorem geom_gone {b : List Int} (hb : Byt b) (deep : Int) (fuel : Nat) : ∀ (a : Nat) (lvl o : Int), a ≤ b.length → HomeOk o → deep + 2 ≤ fuel + lvl → 1 ≤ fuel → Gone (geomR b deep fuel a lvl o) a b.length := by
  induction fuel with
  | zero => intro a lvl o _ _ _ h; omega
  | succ fu ih =>
    intro a lvl o ha ho hfu _ x hx
    rw [geomR_eq] at hx
    rcases hh : headR b a with e | ⟨le, k⟩
    · rw [hh] at hx
      injection hx with hx
      subst hx
      unfold headR at hh
      by_cases h1 : b.length < a + 1
      · rw [if_pos h1] at hh; injection hh with hh; subst hh; exact ⟨Int.le_refl _, by show (a : Int) ≤ _; omega⟩
      rw [if_neg h1] at hh
      by_cases h2 : 1 < numB b a 1 false % 256
      · rw [if_pos h2] at hh; injection hh with hh; subst hh; exact ⟨Int.le_refl _, by show (a : Int) ≤ _; omega⟩
      rw [if_neg h2] at hh
      by_cases h3 : b.length < a + 1 + 4
      · rw [if_pos h3] at hh; injection hh with hh; subst hh; exact ⟨by show (a : Int) ≤ ((a + 1 : Nat) : Int); omega, by show ((a + 1 : Nat) : Int) ≤ _; omega⟩
      rw [if_neg h3] at hh
      by_cases h4 : numB b (a + 1) 4 (decide (numB b a 1 false % 256 = 1)) % 4294967296 < 1 ∨ 7 < numB b (a + 1) 4 (decide (numB b a 1 false % 256 = 1)) % 4294967296
      · rw [if_pos h4] at hh; injection hh with hh; subst hh; exact ⟨by show (a : Int) ≤ (a : Int) + 1; omega, by show (a : Int) + 1 ≤ _; omega⟩
      rw [if_neg h4] at hh
      cases hh
    rw [hh] at hx
    dsimp only at hx
    obtain ⟨h5, hst, hk⟩ := head_back hb hh
    split at hx
    · injection hx with hx; subst hx; exact ⟨by show (a : Int) ≤ (a : Int) + 1; omega, by show (a : Int) + 1 ≤ _; omega⟩
    by_cases hd : deep < lvl
    · rw [if_pos hd] at hx; injection hx with hx; subst hx; exact ⟨Int.le_refl _, by show (a : Int) ≤ _; omega⟩
    rw [if_neg hd, show a + 1 + 4 = a + 5 from rfl] at hx
    unfold bodyR at hx
    by_cases k1 : k = 1
    · rw [if_pos k1] at hx
      exact ((place_gone (by omega)).map _).mono (by omega) x hx
    rw [if_neg k1] at hx
    by_cases k2 : k = 2
    · rw [if_pos k2] at hx
      rcases hc : countR b (a + 5) le 16 with e | m
      · rw [hc] at hx; injection hx with hx; exact (count_gone (by omega)).mono (by omega) x (by rw [hc, hx])
      rw [hc] at hx
      obtain ⟨c1, c2, c3⟩ := count_back hb hc
      exact ((points_gone (by omega)).map _).mono (by omega) x hx
    rw [if_neg k2] at hx
    by_cases k3 : k = 3
    · rw [if_pos k3] at hx
      rcases hc : countR b (a + 5) le 20 with e | m
      · rw [hc] at hx; injection hx with hx; exact (count_gone (by omega)).mono (by omega) x (by rw [hc, hx])
      rw [hc] at hx
      obtain ⟨c1, c2, c3⟩ := count_back hb hc
      exact ((rings_gone hb m (a + 5 + 4) (by omega)).map _).mono (by omega) x hx
    rw [if_neg k3] at hx
    rcases hc : countR b (a + 5) le (if k = 4 then 21 else 9) with e | m
    · rw [hc] at hx; injection hx with hx; exact (count_gone (by omega)).mono (by omega) x (by rw [hc, hx])
    rw [hc] at hx
    obtain ⟨c1, c2, c3⟩ := count_back hb hc
    refine ((parts_gone (fun q => geomR b deep fu q (lvl + 1) k) (fun a ha => ih a (lvl + 1) k ha (.inr (by omega)) (by omega) (by omega)) (fun a ha g hg => ?_) m (a + 5 + 4) (by omega)).map _).mono (by omega) x hx
    have := back_of hb deep fu a (lvl + 1) k g.1 g.2.1 g.2.2 hg ha (.inr (by omega))
    have h1 := this.u
    have h2 := this.e
    omega
end Go.Proofs.YtiiolhnpnlmkjaaDoor.Tree
