/- Texts of this claim laid one behind the other (TMkS; TMk; TPB; TMkT; TGrown; TParseL; TCoordsS): what each proves stands at its own names; the last one is the claim's. No conditions but those told. -/
import Derived.Test.YtiiolhnpnlmkjaaDoorZCi
import Derived.Laws.Small
namespace Go.Proofs.YtiiolhnpnlmkjaaDoor.Tree
open Go.RowKit Go.Proofs.YtiiolhnpnlmkjaaDoor.PWkbPrints Go.Proofs.YtiiolhnpnlmkjaaDoorW.PrintWords Go.Proofs.YtiiolhnpnlmkjaaDoorW.PrintLast Go.Proofs.YtiiolhnpnlmkjaaDoorW.PrintMore Go.Proofs.YtiiolhnpnlmkjaaDoor.PMk
set_option linter.unusedVariables false
set_option linter.unusedSimpArgs false
attribute [local go_sem] Oper.semAt_some max2_int max_two min2_int min_two
/-! ### plain -/
/-! ### the maker's state -/
structure Mk (w0 W : World) (gm : Nat) (l : List Wn) (A : Option Addr) (c nx : Nat) : Prop where
  c : W.heap[gm]? = some (.cells #[.slice A l.length c, .int .i64 (nx : Int)] 106 (0, 0))
  r : Kd.C kWn w0 A l.length l
  h : w0.heap.size ≤ gm
  K : Below w0.heap.size w0 W
  n : nx ≤ 60
/-- Between two worlds the maker alone is changed. -/
structure Mp (W W' : World) (gm : Nat) : Prop where
  s : W.heap.size ≤ W'.heap.size
  k : ∀ j, j < W.heap.size → j ≠ gm → W'.heap[j]? = W.heap[j]?
section
variable {w0 W W' W2 : World} {gm : Nat} {l : List Wn} {A : Option Addr} {c nx nx' : Nat}
theorem Mp.below (gm : Nat) (h : Below W.heap.size W W') : Mp W W' gm := ⟨h.size, fun j hj _ => h.block j hj⟩
theorem Mp.trans (h : Mp W W' gm) (k : Mp W' W2 gm) : Mp W W2 gm := ⟨Nat.le_trans h.s k.s, fun j hj hn => (k.k j (Nat.lt_of_lt_of_le hj h.s) hn).trans (h.k j hj hn)⟩
theorem Mk.below (h : Mk w0 W gm l A c nx) (hb : Below W.heap.size W W') : Mk w0 W' gm l A c nx := ⟨blk_below h.c hb, h.r, h.h, below_step h.K hb, h.n⟩
theorem Mk.keepB (hP : Mk w0 W gm l A c nx) (hv : Mp W W' gm) {k : Nat} {cs : Array Value} {q : Nat} (hc : W.heap[k]? = some (.cells cs q (0, 0))) (hq : q ≠ 106) : W'.heap[k]? = some (.cells cs q (0, 0)) := by
  refine (hv.k k (blk_lt hc) ?_).trans hc
  rintro rfl
  rw [hP.c] at hc
  injection hc with hc
  injection hc with _ hc
  exact hq hc.symm
theorem Mk.keepS {α : Type} {d : Kd α} {e base : Nat} {ok : Nat → Prop} {v : Value} {xs : List α} (hP : Mk w0 W gm l A c nx) (hv : Mp W W' gm) (h : Kd.S d e W base ok v xs) (he : ∀ q, q ∈ e :: d.E → q ≠ 106) : Kd.S d e W' base (fun k => ok k ∧ k < W.heap.size) v xs := by
  refine Kd.S_mono (Kd.S_step (Kd.S_bound h) ?_) (fun _ hk => ⟨hk.1, hk.2.2.1⟩)
  rintro k ⟨_, _, hlt, q, hq, cells, hc⟩ _
  exact (hP.keepB hv hc (he q hq)).trans hc.symm
theorem Mk.grownO {row : Option Nat} (hP : Mk w0 W gm l A c nx) (hg : W.grownBy W' row) (hr : ∀ g, row = some g → w0.heap.size ≤ g ∧ g ≠ gm) : Mk w0 W' gm l A c nx :=
  ⟨blk_grown hP.c hg (fun e => (hr gm e.symm).2 rfl), hP.r, hP.h, hP.K.grown hg hP.K.size (fun k hk => (hr k hk).1), hP.n⟩
theorem Mp.grownO {W0 : World} {row : Option Nat} (h : Mp W0 W gm) (hg : W.grownBy W' row) (hr : ∀ g, row = some g → W0.heap.size ≤ g) : Mp W0 W' gm :=
  ⟨Nat.le_trans h.s hg.size, fun j hj h1 => (hg.block j (Nat.lt_of_lt_of_le hj h.s) (fun e => by have := hr j e.symm; omega)).trans (h.k j hj h1)⟩
end
end Go.Proofs.YtiiolhnpnlmkjaaDoor.Tree
namespace Go.Proofs.YtiiolhnpnlmkjaaDoor.Tree
open Go.RowKit Go.Proofs.YtiiolhnpnlmkjaaDoor.PWkbPrints Go.Proofs.YtiiolhnpnlmkjaaDoorW.PrintWords Go.Proofs.YtiiolhnpnlmkjaaDoorW.PrintLast Go.Proofs.YtiiolhnpnlmkjaaDoorW.PrintMore Go.Proofs.YtiiolhnpnlmkjaaDoor.PMk
set_option linter.unusedVariables false
set_option linter.unusedSimpArgs false
attribute [local go_sem] Oper.semAt_some max2_int max_two min2_int min_two
/-- A walk of the maker's geom: the maker, the result's cell, the node, the tree that is made. -/
structure MX (w0 W W' : World) (gm : Nat) (l : List Wn) (A : Option Addr) (c nx : Nat) (gs gn : Nat) (x : Wn) (An : Option Addr) (cn : Nat) (go_ : Nat) (cs : Array Value) : Prop where
  P : Mk w0 W' gm l A c nx
  M : Mp W W' gm
  S : W'.heap[gs]? = some (.cells #[.int .i64 0, .slice none 0 0, .slice none 0 0, .slice none 0 0] 28 (0, 0))
  N : W'.heap[gn]? = some (.cells #[.int .i64 x.f0, .int .i64 x.f1, .slice An x.f2.length cn] 149 (0, 0))
  O : W'.heap[go_]? = some (.cells cs 28 (0, 0))
  h : w0.heap.size ≤ W.heap.size ∧ W.heap.size ≤ gs ∧ gs < go_ ∧ W.heap.size ≤ gn ∧ gn < go_ ∧ gm < W.heap.size
section
variable {w0 W W' W2 : World} {gm : Nat} {l : List Wn} {A : Option Addr} {c nx nx' : Nat} {gs gn : Nat} {x : Wn} {An : Option Addr} {cn : Nat} {go_ : Nat} {cs : Array Value}
theorem MX.step (h : MX w0 W W' gm l A c nx gs gn x An cn go_ cs) (hp : Mk w0 W2 gm l A c nx') (hv : Mp W' W2 gm) : MX w0 W W2 gm l A c nx' gs gn x An cn go_ cs :=
  ⟨hp, h.M.trans hv, h.P.keepB hv h.S (by decide), h.P.keepB hv h.N (by decide), h.P.keepB hv h.O (by decide), h.h⟩
theorem MX.below (h : MX w0 W W' gm l A c nx gs gn x An cn go_ cs) (hb : Below W'.heap.size W' W2) : MX w0 W W2 gm l A c nx gs gn x An cn go_ cs := h.step (h.P.below hb) (Mp.below gm hb)
theorem MX.grownO {row : Option Nat} (h : MX w0 W W' gm l A c nx gs gn x An cn go_ cs) (hg : W'.grownBy W2 row) (hr : ∀ g, row = some g → go_ < g) : MX w0 W W2 gm l A c nx gs gn x An cn go_ cs := by
  have hh := h.h
  exact ⟨h.P.grownO hg (fun g e => by have := hr g e; omega), h.M.grownO hg (fun g e => by have := hr g e; omega), blk_grown h.S hg (fun e => by have := hr gs e.symm; omega), blk_grown h.N hg (fun e => by have := hr gn e.symm; omega), blk_grown h.O hg (fun e => by have := hr go_ e.symm; omega), h.h⟩
theorem MX.set (h : MX w0 W W' gm l A c nx gs gn x An cn go_ cs) (i : Nat) (u : Value) : MX w0 W (W'.setCell ⟨go_, i, none⟩ u) gm l A c nx gs gn x An cn go_ (cs.setIfInBounds i u) := by
  have hh := h.h
  have hg := grown_set W' go_ i u
  exact ⟨h.P.grownO hg (fun g e => by injection e with e; subst e; omega), h.M.grownO hg (fun g e => by injection e with e; omega), blk_far h.S (p := ⟨go_, i, none⟩) (by show gs ≠ go_; omega) _, blk_far h.N (p := ⟨go_, i, none⟩) (by show gn ≠ go_; omega) _, blk_set h.O i u, h.h⟩
/-- The result is stored: the four cells of the answer. -/
theorem MX.done (h : MX w0 W W' gm l A c nx gs gn x An cn go_ cs) (u0 u1 u2 u3 : Value) :
    Mk w0 ((((W'.setCell ⟨gs, 0, none⟩ u0).setCell ⟨gs, 1, none⟩ u1).setCell ⟨gs, 2, none⟩ u2).setCell ⟨gs, 3, none⟩ u3) gm l A c nx ∧ Mp W ((((W'.setCell ⟨gs, 0, none⟩ u0).setCell ⟨gs, 1, none⟩ u1).setCell ⟨gs, 2, none⟩ u2).setCell ⟨gs, 3, none⟩ u3) gm := by
  have hh := h.h
  have one : ∀ (w2 : World) (i : Nat) (u : Value), Mk w0 w2 gm l A c nx ∧ Mp W w2 gm → Mk w0 (w2.setCell ⟨gs, i, none⟩ u) gm l A c nx ∧ Mp W (w2.setCell ⟨gs, i, none⟩ u) gm := by
    intro w2 i u hp
    have hg := grown_set w2 gs i u
    exact ⟨hp.1.grownO hg (fun g e => by injection e with e; subst e; omega), hp.2.grownO hg (fun g e => by injection e with e; omega)⟩
  exact one _ 3 u3 (one _ 2 u2 (one _ 1 u1 (one _ 0 u0 ⟨h.P, h.M⟩)))
/-- What is stored is a copy. -/
theorem MX.copy {n : Nat} {k : Int} {v1 v2 v3 u0 u1 u2 u3 : Value} {l1 : List Pt} {l2 : List (List Pt)} {l3 : List Ge} {ok1 ok2 ok3 : Nat → Prop} (h : MX w0 W W' gm l A c nx gs gn x An cn go_ cs)
    (a1 : ∀ k, ok1 k → go_ < k) (a2 : ∀ k, ok2 k → go_ < k) (a3 : ∀ k, ok3 k → go_ < k) (d12 : ∀ k, ok1 k → ¬ ok2 k) (d13 : ∀ k, ok1 k → ¬ ok3 k) (d23 : ∀ k, ok2 k → ¬ ok3 k)
    (h1 : kPt.R 82 W' W.heap.size ok1 v1 l1) (h2 : Kd.S (Kd.slice 82 kPt) 24 W' W.heap.size ok2 v2 l2) (h3 : Kd.S (kSp n) 28 W' W.heap.size ok3 v3 l3) :
    CopyOf (n + 1) W ((((W'.setCell ⟨gs, 0, none⟩ u0).setCell ⟨gs, 1, none⟩ u1).setCell ⟨gs, 2, none⟩ u2).setCell ⟨gs, 3, none⟩ u3) (.agg #[.int .i64 k, v1, v2, v3]) ⟨k, l1, l2, l3⟩ := by
  have hh := h.h
  refine ⟨[.int .i64 k, v1, v2, v3], rfl, ?_⟩
  rw [kSp_M]
  exact ⟨v1, v2, v3, ok1, ok2, ok3, rfl, fun k h => by have := a1 k h; omega, fun k h => by have := a2 k h; omega, fun k h => by have := a3 k h; omega, d12, d13, d23,
    Kd.R_far (p := ⟨gs, 3, none⟩) (Kd.R_far (p := ⟨gs, 2, none⟩) (Kd.R_far (p := ⟨gs, 1, none⟩) (Kd.R_far (p := ⟨gs, 0, none⟩) h1 (fun k h => by have := a1 k h; show k ≠ gs; omega) _) (fun k h => by have := a1 k h; show k ≠ gs; omega) _) (fun k h => by have := a1 k h; show k ≠ gs; omega) _) (fun k h => by have := a1 k h; show k ≠ gs; omega) _,
    Kd.S_far (p := ⟨gs, 3, none⟩) (Kd.S_far (p := ⟨gs, 2, none⟩) (Kd.S_far (p := ⟨gs, 1, none⟩) (Kd.S_far (p := ⟨gs, 0, none⟩) h2 (fun k h => by have := a2 k h; show k ≠ gs; omega) _) (fun k h => by have := a2 k h; show k ≠ gs; omega) _) (fun k h => by have := a2 k h; show k ≠ gs; omega) _) (fun k h => by have := a2 k h; show k ≠ gs; omega) _,
    Kd.S_far (p := ⟨gs, 3, none⟩) (Kd.S_far (p := ⟨gs, 2, none⟩) (Kd.S_far (p := ⟨gs, 1, none⟩) (Kd.S_far (p := ⟨gs, 0, none⟩) h3 (fun k h => by have := a3 k h; show k ≠ gs; omega) _) (fun k h => by have := a3 k h; show k ≠ gs; omega) _) (fun k h => by have := a3 k h; show k ≠ gs; omega) _) (fun k h => by have := a3 k h; show k ≠ gs; omega) _⟩
end
/-- Before the tree is begun. -/
def MY (w0 W W' : World) (gm : Nat) (l : List Wn) (A : Option Addr) (c nx : Nat) (gs gn : Nat) (x : Wn) (An : Option Addr) (cn : Nat) : Prop :=
  Mk w0 W' gm l A c nx ∧ Mp W W' gm ∧ W'.heap[gs]? = some (.cells #[.int .i64 0, .slice none 0 0, .slice none 0 0, .slice none 0 0] 28 (0, 0)) ∧ W'.heap[gn]? = some (.cells #[.int .i64 x.f0, .int .i64 x.f1, .slice An x.f2.length cn] 149 (0, 0))
theorem MY.below {w0 W W' W2 : World} {gm : Nat} {l : List Wn} {A : Option Addr} {c nx : Nat} {gs gn : Nat} {x : Wn} {An : Option Addr} {cn : Nat} (h : MY w0 W W' gm l A c nx gs gn x An cn) (hb : Below W'.heap.size W' W2) : MY w0 W W2 gm l A c nx gs gn x An cn :=
  ⟨h.1.below hb, h.2.1.trans (Mp.below gm hb), blk_below h.2.2.1 hb, blk_below h.2.2.2 hb⟩
end Go.Proofs.YtiiolhnpnlmkjaaDoor.Tree
namespace Go.Proofs.YtiiolhnpnlmkjaaDoor.Tree
open Go.RowKit Go.Proofs.YtiiolhnpnlmkjaaDoor.PWkbPrints Go.Proofs.YtiiolhnpnlmkjaaDoorW.PrintWords Go.Proofs.YtiiolhnpnlmkjaaDoorW.PrintLast Go.Proofs.YtiiolhnpnlmkjaaDoorW.PrintMore Go.Proofs.YtiiolhnpnlmkjaaDoor.Rdr
set_option linter.unusedVariables false
/-! ### the parts -/
theorem St.drop {b X : List Int} {a : Nat} (h : St b a X) : b.drop a = X ++ b.drop (a + X.length) := by
  obtain ⟨t, h⟩ := h
  rw [← List.drop_drop, h, List.drop_left]
section
variable {b : List Int} (hb : Byt b)
include hb
end
/-! ### the finder's walk -/
/-! ### what is taken -/
/-! ### where it gives up -/
/-- An error's place lies between two. -/
def Gone {α : Type} (r : Except (Int × Int) α) (a e : Nat) : Prop := ∀ x, r = .error x → (a : Int) ≤ x.1 ∧ x.1 ≤ e
theorem Gone.map {α β : Type} {r : Except (Int × Int) α} {a e : Nat} (h : Gone r a e) (f : α → β) : Gone (r.map f) a e := by
  intro x hx
  cases r with
  | error y => injection hx with hx; exact h x (by rw [hx])
  | ok v => cases hx
theorem Gone.mono {α : Type} {r : Except (Int × Int) α} {a a' e : Nat} (h : Gone r a' e) (ha : a ≤ a') : Gone r a e := by
  intro x hx
  have := h x hx
  omega
end Go.Proofs.YtiiolhnpnlmkjaaDoor.Tree
namespace Go.Proofs.YtiiolhnpnlmkjaaDoor.Tree
open Go.RowKit Go.Proofs.YtiiolhnpnlmkjaaDoor.PWkbPrints Go.Proofs.YtiiolhnpnlmkjaaDoorW.PrintWords Go.Proofs.YtiiolhnpnlmkjaaDoorW.PrintLast Go.Proofs.YtiiolhnpnlmkjaaDoorW.PrintMore Go.Proofs.YtiiolhnpnlmkjaaDoor.PMk
set_option linter.unusedVariables false
set_option linter.unusedSimpArgs false
attribute [local go_sem] Oper.semAt_some max2_int max_two min2_int min_two
/-! ### finite patterns -/
theorem expo_nat (n : Nat) (h : n < 18446744073709551616) : expo (n : Int) = ((n / 4503599627370496 &&& 2047 : Nat) : Int) := by
  unfold expo
  rw [show ((n : Int) / 4503599627370496) = ((n / 4503599627370496 : Nat) : Int) from by omega]
  have h1 := u64_and_nat (n / 4503599627370496) 2047 (by omega) (by omega)
  rw [show ((2047 : Nat) : Int) = 2047 from rfl] at h1
  rw [h1]
  have h2 : n / 4503599627370496 &&& 2047 ≤ 2047 := Nat.and_le_right
  unfold wrap64
  omega
/-! ### the trees -/
end Go.Proofs.YtiiolhnpnlmkjaaDoor.Tree
namespace Go.Proofs.YtiiolhnpnlmkjaaDoor.Tree
open Go.RowKit Go.Proofs.YtiiolhnpnlmkjaaDoor.PWkbPrints Go.Proofs.YtiiolhnpnlmkjaaDoorW.PrintWords Go.Proofs.YtiiolhnpnlmkjaaDoorW.PrintLast Go.Proofs.YtiiolhnpnlmkjaaDoorW.PrintMore Go.Proofs.YtiiolhnpnlmkjaaDoor.PMk
set_option linter.unusedVariables false
set_option linter.unusedSimpArgs false
attribute [local go_sem] Oper.semAt_some max2_int max_two min2_int min_two
end Go.Proofs.YtiiolhnpnlmkjaaDoor.Tree
namespace Go.Proofs.YtiiolhnpnlmkjaaDoor.Tree
open Go.RowKit Go.Proofs.YtiiolhnpnlmkjaaDoor.PWkbPrints Go.Proofs.YtiiolhnpnlmkjaaDoorW.PrintWords Go.Proofs.YtiiolhnpnlmkjaaDoorW.PrintLast Go.Proofs.YtiiolhnpnlmkjaaDoorW.PrintMore
set_option linter.unusedVariables false
/-! ### plain -/
theorem st_self (X : List Int) : St X 0 X := ⟨[], by simp⟩
/-! ### the depth -/
/-! ### Parse by its answer -/
theorem parse_ok (A : Option Addr) (c : Nat) (b : List Int) (depth most : Int) (W : World) (g : Ge) (os : List Bool) (hC : kB.C W A b.length b) (hc : b.length ≤ c) (hl : b.length ≤ 1048576) (h : parsedR b depth most = .ok (g, os)) :
    Calls Tryd.prog 13 #[.slice A b.length c, .int .i64 depth, .int .i64 most] W fun e W' => ∃ A1 c1 A2 c2 A3 c3, e = .returned (.tuple #[.agg #[.int .i64 g.f0, .slice A1 g.f1.length c1, .slice A2 g.f2.length c2, .slice A3 g.f3.length c3], .nilIface]) ∧
      CopyOf 257 W W' (.agg #[.int .i64 g.f0, .slice A1 g.f1.length c1, .slice A2 g.f2.length c2, .slice A3 g.f3.length c3]) g ∧ Below W.heap.size W W' := by
  refine (parse_calls A c b depth most W hC hc hl).mono ?_
  rintro e W' ⟨u, ev, rfl, hb, -, hO⟩
  obtain ⟨rfl, hcp⟩ := hO _ h
  obtain ⟨A1, c1, A2, c2, A3, c3, rfl, _⟩ := hcp.isG
  exact ⟨A1, c1, A2, c2, A3, c3, rfl, hcp, hb⟩
theorem parse_err (A : Option Addr) (c : Nat) (b : List Int) (depth most : Int) (W : World) (x : Int × Int) (hC : kB.C W A b.length b) (hc : b.length ≤ c) (hl : b.length ≤ 1048576) (h : parsedR b depth most = .error x) :
    Calls Tryd.prog 13 #[.slice A b.length c, .int .i64 depth, .int .i64 most] W fun e W' => ∃ ge : Nat, e = .returned (.tuple #[.agg #[.int .i64 0, .slice none 0 0, .slice none 0 0, .slice none 0 0], .iface 109 (.pointer (some ⟨ge, 0, none⟩))]) ∧
      ErrV W' (.iface 109 (.pointer (some ⟨ge, 0, none⟩))) (some x) ∧ Below W.heap.size W W' := by
  refine (parse_calls A c b depth most W hC hc hl).mono ?_
  rintro e W' ⟨u, ev, rfl, hb, hE, -⟩
  obtain ⟨rfl, hev⟩ := hE _ h
  obtain ⟨ge, rfl⟩ := ErrV.iface hev
  exact ⟨ge, rfl, hev, hb⟩
end Go.Proofs.YtiiolhnpnlmkjaaDoor.Tree
namespace Go.Proofs.YtiiolhnpnlmkjaaDoor.Tree
open Go.RowKit Go.Proofs.YtiiolhnpnlmkjaaDoor.PWkbPrints Go.Proofs.YtiiolhnpnlmkjaaDoorW.PrintWords Go.Proofs.YtiiolhnpnlmkjaaDoorW.PrintLast Go.Proofs.YtiiolhnpnlmkjaaDoorW.PrintMore
set_option linter.unusedVariables false
/-! ### bits -/
theorem frac_nat (n : Nat) (h : n < 18446744073709551616) : frac (n : Int) = ((n % 4503599627370496 : Nat) : Int) := by
  unfold frac
  have h1 := u64_and_nat n 4503599627370495 h (by omega)
  rw [show ((4503599627370495 : Nat) : Int) = 4503599627370495 from rfl] at h1
  rw [h1, show (4503599627370495 : Nat) = 2 ^ 52 - 1 from rfl, Nat.and_two_pow_sub_one_eq_mod]
theorem expo_mod (n : Nat) (h : n < 18446744073709551616) : expo (n : Int) = ((n / 4503599627370496 % 2048 : Nat) : Int) := by
  rw [expo_nat n h, show (2047 : Nat) = 2 ^ 11 - 1 from rfl, Nat.and_two_pow_sub_one_eq_mod]
/-- Not finite? -/
def infB (x : Int) : Bool := Go.bits .and .u64 (x / 4503599627370496) 2047 == 2047
/-- None of a number? -/
def nanB (x : Int) : Bool := decide (9218868437227405312 < Go.bits .andNot .u64 x 9223372036854775808)
theorem infB_class (x : Int) (h0 : 0 ≤ x) (h1 : x < 18446744073709551616) : (infB x = true ↔ 3 ≤ classOf x) := by
  obtain ⟨n, rfl⟩ := Int.eq_ofNat_of_zero_le h0
  have hn : n < 18446744073709551616 := by omega
  have hand := u64_and_nat (n / 4503599627370496) 2047 (by omega) (by omega)
  rw [show ((2047 : Nat) : Int) = 2047 from rfl] at hand
  have hdiv : ((n : Int) / 4503599627370496) = ((n / 4503599627370496 : Nat) : Int) := by omega
  have hb : infB (n : Int) = (((n / 4503599627370496 % 2048 : Nat) : Int) == 2047) := by
    unfold infB
    rw [hdiv, hand, show (2047 : Nat) = 2 ^ 11 - 1 from rfl, Nat.and_two_pow_sub_one_eq_mod]
  rw [hb, beq_iff_eq]
  unfold classOf
  rw [expo_mod n hn]
  constructor
  · intro h
    rw [if_neg (by omega), if_neg (by omega)]
    split <;> omega
  · intro h
    by_cases c0 : ((n / 4503599627370496 % 2048 : Nat) : Int) = 0
    · rw [if_pos c0] at h
      split at h <;> omega
    · rw [if_neg c0] at h
      by_cases c1 : ((n / 4503599627370496 % 2048 : Nat) : Int) < 2047
      · rw [if_pos c1] at h
        omega
      · omega
theorem nanB_class (x : Int) (h0 : 0 ≤ x) (h1 : x < 18446744073709551616) : (nanB x = true ↔ classOf x = 4) := by
  obtain ⟨n, rfl⟩ := Int.eq_ofNat_of_zero_le h0
  have hn : n < 18446744073709551616 := by omega
  have hnot := u64_andNot_nat n 9223372036854775808 hn (by omega)
  rw [show ((9223372036854775808 : Nat) : Int) = 9223372036854775808 from rfl] at hnot
  have hb : nanB (n : Int) = decide (9218868437227405312 < ((n % 9223372036854775808 : Nat) : Int)) := by
    unfold nanB
    rw [hnot, show (18446744073709551615 - 9223372036854775808 : Nat) = 2 ^ 63 - 1 from rfl, Nat.and_two_pow_sub_one_eq_mod]
  rw [hb, decide_eq_true_iff]
  unfold classOf
  rw [expo_mod n hn, frac_nat n hn]
  constructor
  · intro h
    rw [if_neg (by omega), if_neg (by omega), if_neg (by omega)]
  · intro h
    by_cases c0 : ((n / 4503599627370496 % 2048 : Nat) : Int) = 0
    · rw [if_pos c0] at h
      split at h <;> omega
    · rw [if_neg c0] at h
      by_cases c1 : ((n / 4503599627370496 % 2048 : Nat) : Int) < 2047
      · rw [if_pos c1] at h
        omega
      · rw [if_neg c1] at h
        by_cases c2 : ((n % 4503599627370496 : Nat) : Int) = 0
        · rw [if_pos c2] at h
          omega
        · omega
/-! ### a point and a line -/
def pointB (le : Bool) (x y : Int) : List Int := P64 (P64 (bitB le ++ P32 1 le) x le) y le
def lineB (le : Bool) (x y : Int) : List Int := P64 (P64 (bitB le ++ P32 2 le ++ P32 1 le) x le) y le
theorem pointB_eq (le : Bool) (x y : Int) : pointB le x y = (bitB le ++ P32 (u32 1) le) ++ ptB le ⟨x, y⟩ := by
  unfold pointB ptB
  rw [P64_app, P64_app (bitB le ++ P32 1 le), List.append_assoc]
  rfl
theorem lineB_eq (le : Bool) (x y : Int) : lineB le x y = (bitB le ++ P32 (u32 2) le) ++ (P32 (u32 ((1 : Nat) : Int)) le ++ ptB le ⟨x, y⟩) := by
  unfold lineB ptB
  rw [P64_app, P64_app (bitB le ++ P32 2 le ++ P32 1 le)]
  simp only [List.append_assoc]
  rfl
theorem pointB_len (le : Bool) (x y : Int) : (pointB le x y).length = 21 := by
  rw [pointB_eq, List.length_append, List.length_append, P32_len, ptB_len]; rfl
theorem lineB_len (le : Bool) (x y : Int) : (lineB le x y).length = 25 := by
  rw [lineB_eq, List.length_append, List.length_append, List.length_append, P32_len, P32_len, ptB_len]; rfl
theorem point_parsed (le : Bool) (x y : Int) (hx : 0 ≤ x ∧ x < 18446744073709551616) (hy : 0 ≤ y ∧ y < 18446744073709551616) :
    parsedR (pointB le x y) 1 21 = if classOf x = 4 ∧ classOf y = 4 then .ok (⟨1, [], [], []⟩, [le]) else if 3 ≤ classOf x then .error (5, 175) else if 3 ≤ classOf y then .error (13, 175) else .ok (⟨1, [⟨x, y⟩], [], []⟩, [le]) := by
  have hst : St (pointB le x y) 0 (pointB le x y) := st_self _
  have hl := pointB_len le x y
  have h2 : St (pointB le x y) 0 ((bitB le ++ P32 (u32 1) le) ++ ptB le ⟨x, y⟩) := by
    conv => arg 3; rw [← pointB_eq]
    exact hst
  obtain ⟨B, hB⟩ : ∃ B, B = pointB le x y := ⟨_, rfl⟩
  rw [← hB] at hl h2 ⊢
  clear hst hB
  have h3 := h2.app
  have h5 : (bitB le ++ P32 (u32 1) le).length = 5 := by rw [List.length_append, P32_len]; rfl
  rw [h5] at h3
  obtain ⟨n1, n2⟩ := h3.2.pt ⟨hx, hy⟩
  have hpl : placeR B 5 le = if classOf x = 4 ∧ classOf y = 4 then .ok [] else if 3 ≤ classOf x then .error (5, 175) else if 3 ≤ classOf y then .error (13, 175) else .ok [⟨x, y⟩] := by
    unfold placeR
    rw [hl, if_neg (by decide), if_neg (by decide), n1, n2]
    rfl
  unfold parsedR
  rw [hl, if_neg (by decide), geomR_eq, head_of h3.1 (Nat.zero_le _) (by decide)]
  dsimp only
  rw [if_neg (by simp), if_neg (by decide)]
  unfold bodyR
  rw [if_pos rfl, hpl]
  by_cases c1 : classOf x = 4 ∧ classOf y = 4
  · rw [if_pos c1, if_pos c1]
    rfl
  rw [if_neg c1, if_neg c1]
  by_cases c2 : 3 ≤ classOf x
  · rw [if_pos c2, if_pos c2]
    rfl
  rw [if_neg c2, if_neg c2]
  by_cases c3 : 3 ≤ classOf y
  · rw [if_pos c3, if_pos c3]
    rfl
  rw [if_neg c3, if_neg c3]
  show (if (0 + 1 + 4 + 16 : Nat) < 21 then Except.error ((((0 + 1 + 4 + 16 : Nat)) : Int), 174) else Except.ok ((⟨1, [⟨x, y⟩], [], []⟩ : Ge), [le])) = _
  rw [if_neg (by decide)]
theorem points_bad {B : List Int} {a n : Nat} {le : Bool} {p : Int} (h : badFrom B a le n 0 = some p) : pointsR B a le n = .error (p, 175) := by
  unfold pointsR
  rw [h]
theorem points_good {B : List Int} {a n : Nat} {le : Bool} (h : badFrom B a le n 0 = none) : pointsR B a le n = .ok (ptsAt B a le n) := by
  unfold pointsR
  rw [h]
theorem points_one (B : List Int) (a : Nat) (le : Bool) (x y : Int) (n1 : numB B a 8 le = x) (n2 : numB B (a + 8) 8 le = y) :
    pointsR B a le 1 = if 3 ≤ classOf x then .error ((a : Int), 175) else if 3 ≤ classOf y then .error (((a + 8 : Nat) : Int), 175) else .ok [⟨x, y⟩] := by
  have hb : badFrom B a le 1 0 = if 3 ≤ classOf x then some (a : Int) else if 3 ≤ classOf y then some ((a + 8 : Nat) : Int) else none := by
    rw [badFrom, badFrom, Nat.mul_zero, Nat.add_zero, n1, n2]
  have hp : ptsAt B a le 1 = [⟨x, y⟩] := by
    unfold ptsAt
    rw [show List.range 1 = [0] from rfl, List.map_cons, List.map_nil, ptAt, Nat.mul_zero, Nat.add_zero, n1, n2]
  by_cases c2 : 3 ≤ classOf x
  · rw [if_pos c2] at hb
    rw [if_pos c2]
    exact points_bad hb
  rw [if_neg c2] at hb
  rw [if_neg c2]
  by_cases c3 : 3 ≤ classOf y
  · rw [if_pos c3] at hb
    rw [if_pos c3]
    exact points_bad hb
  rw [if_neg c3] at hb
  rw [if_neg c3, ← hp]
  exact points_good hb
theorem line_map (B : List Int) (le : Bool) (q : Pt) (hl : B.length = 25) (h2 : St B 0 ((bitB le ++ P32 (u32 2) le) ++ (P32 (u32 ((1 : Nat) : Int)) le ++ ptB le q))) (r : Except (Int × Int) (List Pt)) (hpt : pointsR B 9 le 1 = r) :
    parsedR B 1 25 = r.map (fun l => ((⟨2, l, [], []⟩ : Ge), [le])) := by
  have h3 := h2.app
  have h5 : (bitB le ++ P32 (u32 2) le).length = 5 := by rw [List.length_append, P32_len]; rfl
  rw [h5] at h3
  have h4 := h3.2.app
  rw [P32_len] at h4
  have hcn : countR B 5 le 16 = .ok 1 := (count2 (c := B) (k := 25) (b := B) (by rw [← hl, List.take_length]) (by rw [hl]; decide) h4.1 (by decide) (by decide)).2.2 (by decide)
  have hg : geomR B (min 1 256) 257 0 1 0 = r.map (fun l => ((⟨2, l, [], []⟩ : Ge), 25, [le])) := by
    rw [geomR_eq, head_of h3.1 (Nat.zero_le _) (by decide)]
    dsimp only
    rw [if_neg (by simp), if_neg (by decide)]
    unfold bodyR
    rw [if_neg (by decide), if_pos rfl, hcn]
    dsimp only
    rw [hpt]
  unfold parsedR
  rw [hl, if_neg (by decide), hg]
  cases r <;> rfl
theorem line_parsed (le : Bool) (x y : Int) (hx : 0 ≤ x ∧ x < 18446744073709551616) (hy : 0 ≤ y ∧ y < 18446744073709551616) (r : Except (Int × Int) (List Pt)) (hr : (if 3 ≤ classOf x then .error (9, 175) else if 3 ≤ classOf y then .error (17, 175) else .ok [⟨x, y⟩]) = r) :
    parsedR (lineB le x y) 1 25 = r.map (fun l => ((⟨2, l, [], []⟩ : Ge), [le])) := by
  have hst : St (lineB le x y) 0 (lineB le x y) := st_self _
  have hl := lineB_len le x y
  have h2 : St (lineB le x y) 0 ((bitB le ++ P32 (u32 2) le) ++ (P32 (u32 ((1 : Nat) : Int)) le ++ ptB le ⟨x, y⟩)) := by
    conv => arg 3; rw [← lineB_eq]
    exact hst
  obtain ⟨B, hB⟩ : ∃ B, B = lineB le x y := ⟨_, rfl⟩
  rw [← hB] at hl h2 ⊢
  clear hst hB
  have h3 := h2.app
  have h5 : (bitB le ++ P32 (u32 2) le).length = 5 := by rw [List.length_append, P32_len]; rfl
  rw [h5] at h3
  have h4 := h3.2.app
  rw [P32_len] at h4
  obtain ⟨n1, n2⟩ := h4.2.pt ⟨hx, hy⟩
  exact line_map B le ⟨x, y⟩ hl h2 r ((points_one B 9 le x y n1 n2).trans hr)
/-! ### slices of few bytes -/
theorem put32_any (A : Option Addr) (c : Nat) (l : List Int) (v : Int) (le : Bool) (W : World) (hC : kB.C W A l.length l) (hc : l.length ≤ c) (hl : l.length ≤ 100) : Calls Tryd.prog 35 #[.slice A l.length c, .int .u32 v, .bool le] W fun e W' => ∃ u, e = .returned u ∧ kB.R 5 W' W.heap.size (fun _ => True) u (l ++ P32 v le) ∧ Below W.heap.size W W' :=
  octet_Put32.calls A c l v le (l ++ P32 v le) W hC hc (by unfold octet_Put32.f octet_put_uint32.f; rw [if_pos ⟨rfl, by omega⟩]; cases le <;> rfl)
end Go.Proofs.YtiiolhnpnlmkjaaDoor.Tree
