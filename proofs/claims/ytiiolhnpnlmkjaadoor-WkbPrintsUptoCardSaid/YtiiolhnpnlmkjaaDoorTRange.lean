/- A loop over all geometries of a tree, whatever its body. No conditions but those told. -/
import Derived.Test.YtiiolhnpnlmkjaaDoorTIter
import Derived.Shelf.Abstract
namespace Go.Proofs.YtiiolhnpnlmkjaaDoor.Tree
open Go.RowKit Go.Proofs.YtiiolhnpnlmkjaaDoorW.PrintWords Go.Proofs.YtiiolhnpnlmkjaaDoorW.PrintLast Go.Proofs.YtiiolhnpnlmkjaaDoorW.PrintMore
set_option linter.unusedVariables false
set_option linter.unusedSimpArgs false
/-- What a round does to memory: the iterator's boxes stay, what is no cells stays, what lay below stays. -/
structure Step (n₀ B : Nat) (W W' : World) : Prop where
  kp : KpS n₀ W W'
  from_ : KeepsFrom B W W'
theorem keepsFrom_below {B : Nat} {W W' : World} (h : Below W.heap.size W W') : KeepsFrom B W W' := ⟨h.size, fun k o _ hk _ => (h.block k (Array.getElem?_eq_some_iff.1 hk).1).trans hk⟩
theorem Step.refl (n₀ B : Nat) (W : World) : Step n₀ B W W := ⟨KpS.refl _ _, KeepsFrom.refl _ _⟩
theorem Step.trans {n₀ B : Nat} {X Y Z : World} (h : Step n₀ B X Y) (k : Step n₀ B Y Z) : Step n₀ B X Z := ⟨h.kp.trans k.kp, h.from_.trans k.from_⟩
theorem Step.below {n₀ B : Nat} {A W W' : World} (h : Step n₀ B A W) (hb : Below W.heap.size W W') (hn : n₀ ≤ W.heap.size) : Step n₀ B A W' := h.trans ⟨KpS.of_below hb hn, keepsFrom_below hb⟩
theorem Step.alloc {n₀ B : Nat} {A W : World} (h : Step n₀ B A W) (hn : n₀ ≤ W.heap.size) (o : Obj) : Step n₀ B A (W.alloc o) := h.below (below_alloc (Below.refl _ _) o) hn
theorem Step.drew {n₀ B : Nat} {A W : World} (h : Step n₀ B A W) : Step n₀ B A W.drew := ⟨h.kp.drew, h.from_.trans ⟨Nat.le_refl _, fun _ _ _ h _ => h⟩⟩
theorem Step.set {n₀ B : Nat} {A W : World} (h : Step n₀ B A W) {g t j : Nat} {cs : Array Value} (hb : W.heap[g]? = some (.cells cs t (0, 0))) (ht : t ≠ 123) (hn : n₀ ≤ g) (v : Value) : Step n₀ B A (W.setCell ⟨g, j, none⟩ v) :=
  ⟨h.kp.trans ((KpS.refl n₀ W).set hb ht hn v), h.from_.trans ((KeepsOthers.setCell _ _ _).from B)⟩
theorem Step.grown {n₀ B : Nat} {A W W' : World} (h : Step n₀ B A W) {row : Option Nat} (hg : W.grownBy W' row) (hn : n₀ ≤ W.heap.size) (hr : ∀ k, row = some k → n₀ ≤ k ∧ ∃ cs t, W.heap[k]? = some (.cells cs t (0, 0)) ∧ t ≠ 123) : Step n₀ B A W' :=
  ⟨h.kp.trans ((KpS.refl n₀ W).grown hg hn hr), h.from_.trans ((KeepsOthers.of_grownBy hg (fun j o e hj => by obtain ⟨_, cs, t, h2, _⟩ := hr j e; rw [h2] at hj; cases hj; rfl)).from B)⟩
/-- How a round may be left. -/
def allPost (n₀ B : Nat) (I Ix : List It → World → Prop) (xs : List It) (W : World) : Exit → Act → World → Prop
  | .normal, _, W' => Step n₀ B W W' ∧ I xs W'
  | .ret, _, W' => Step n₀ B W W' ∧ Ix xs W'
  | _, _, _ => False
theorem allPost_out {n₀ B : Nat} {I Ix : List It → World → Prop} {xs : List It} {W : World} : ¬ LetsOut (allPost n₀ B I Ix xs W) := by rintro ⟨_, _, h⟩; exact h
def itsOf {L : List Spot} (pre : List {x // x ∈ L}) : List It := pre.map fun x => x.1.it
theorem itsOf_snoc {L : List Spot} (pre : List {x // x ∈ L}) (x : {x // x ∈ L}) : itsOf (pre ++ [x]) = itsOf pre ++ [x.1.it] := by simp [itsOf]
theorem itsOf_all (L : List Spot) : itsOf L.attach = L.map Spot.it := by
  unfold itsOf
  conv => rhs; rw [← List.attach_map_subtype_val L]
  rw [List.map_map]; rfl
/-- Where the loop has ended. -/
def behind (a : Act) (D : Nat) : Act := { a with defers := { target := .collected D, args := #[] } :: a.defers }
set_option maxHeartbeats 1000000 in
theorem range_all {gOp : Operand} {ps : Array Tmp} {assign body : Code} {Q : Exit → Act → World → Prop} {a : Act} {w : World} (n₀ : Nat) (w0 : World) (hn₀ : w0.heap.size = n₀) (g : Ge) (ad : Addr) (hA : GAt w0 ad g) (hbk : g.bulk ≤ 1073741824) (hw : Below n₀ w0 w)
    (Bt : Nat) (hBt : w.cell? ⟨Bt, 0, none⟩ = some (.pointer (some ad))) (hg : a.eval gOp = .func (.func 81) #[] #[.pointer (some ⟨Bt, 0, none⟩)]) (hps : ps.size = 1) (frame : Spot → Nat → Act)
    (hassign : ∀ (l : Nat) (x : Spot) (W : World) (K : Act → World → Prop), K (frame x W.heap.size) (W.alloc (.cells #[.pointer (some x.ad), .int .i64 x.lvl, .int .i64 x.of_] 123)) →
      assign.wpIn (Fence.wide.inRound l) 1 Tryd.prog (Exit.then K (fun _ _ _ => False)) { tmps := (ps.zip #[x.enc]).foldl (fun t (p, v) => t.setIfInBounds p v) a.tmps, defers := [] } W)
    (I Ix : List It → World → Prop) (hI : OwnFrom w.heap.size I) (hIx : OwnFrom w.heap.size Ix) (h0 : I [] w)
    (hbody : ∀ (l : Nat) (pre : List It) (x : Spot) (Bx : Nat) (W : World), (∀ y ∈ pre ++ [x.it], y ∈ nodes g 1 0) → GAt w0 x.ad x.g → Below n₀ w0 W → n₀ ≤ W.heap.size → w.heap.size ≤ Bx → W.heap[Bx]? = some (.cells #[.pointer (some x.ad), .int .i64 x.lvl, .int .i64 x.of_] 123 (0, 0)) →
      I pre W → (pre ++ [x.it]).length ≤ (nodes g 1 0).length → body.wpIn (Fence.wide.inRound l) 1 Tryd.prog (allPost n₀ w.heap.size I Ix (pre ++ [x.it]) W) (frame x Bx) W)
    (hdone : ∀ (D : Nat) (W : World), w.heap.size ≤ D → I (nodes g 1 0) W → Below n₀ w0 W → W.heap[D]? = some (.deferred (some [])) → Q .normal (behind a D) W)
    (hstop : ∀ (D : Nat) (p : List It) (W : World), w.heap.size ≤ D → p <+: nodes g 1 0 → Ix p W → Below n₀ w0 W → W.heap[D]? = some (.deferred (some [])) → Code.ret.wpIn Fence.wide 3 Tryd.prog Q (behind a D) W) :
    (Code.rangeFunc gOp ps assign body).wpIn Fence.wide 3 Tryd.prog Q a w := by
  obtain ⟨L, h1, h2, h3⟩ := all_stops (3 - 1) n₀ w0 hn₀ g ad hA hbk w hw Bt hBt
  have hsz : n₀ ≤ w.heap.size := by have := hw.size; omega
  have hlen : (nodes g 1 0).length = L.length := by rw [← h1, List.length_map]
  refine wpIn_rangeFunc_ownH rfl (by omega) (gf := 81) (lb := #[.pointer (some ⟨Bt, 0, none⟩)]) hg trivial (Go.Proofs.enters_of Tryd.func81 (by kernel_rfl) rfl) h3 (fun h k => h.trans k) (KpS.put hsz) (Below.refl _ _) (fun _ => by rw [hps]; rfl)
    (fun (pre : List {x // x ∈ L}) W => I (itsOf pre) W ∧ Below n₀ w0 W ∧ w.heap.size ≤ W.heap.size) (fun c (pre : List {x // x ∈ L}) W => c = .ret ∧ Ix (itsOf pre) W ∧ Below n₀ w0 W)
    (OwnFrom.and (fun s A B row hs hg hr => hI _ A B row hs hg hr) (OwnFrom.and (ownFrom_below (by omega) hsz) (fun s A B row hs hg hr => Nat.le_trans hs hg.size)))
    (fun c => OwnFrom.and (ownFrom_pure _ _) (OwnFrom.and (fun s A B row hs hg hr => hIx _ A B row hs hg hr) (ownFrom_below (by omega) hsz)))
    ⟨h0, hw, Nat.le_refl _⟩
    (fun x a' W => ∃ Bx, w.heap.size ≤ Bx ∧ W.heap[Bx]? = some (.cells #[.pointer (some x.1.ad), .int .i64 x.1.lvl, .int .i64 x.1.of_] 123 (0, 0)) ∧ a' = frame x.1 Bx)
    (fun x a' => ?hAx) ?hassign ?hbody ?hdone ?hstop
  case hAx =>
    rintro s A B row ⟨Bx, hB, hb, e⟩ hg hr
    exact ⟨Bx, hB, (grownBy_keeps_cells hg (fun r e => (hr r e).2) hb rfl).trans hb, e⟩
  case hassign =>
    rintro l pre x W K ⟨hi, hb, hW⟩ hK
    have hb2 : Below n₀ W (W.alloc (.cells #[.pointer (some x.1.ad), .int .i64 x.1.lvl, .int .i64 x.1.of_] 123)) := (Below.refl _ _).alloc (by have := hb.size; omega) _
    exact hassign l x.1 W K (hK _ _ ((KeepsOthers.alloc _ _).from _) ((KpS.refl _ _).alloc (by have := hb.size; omega) _) ⟨hI _ _ _ none hi (World.grownBy_alloc W _ none) (fun r e => by cases e), hb.trans hb2, by simp; omega⟩ ⟨W.heap.size, hW, World.alloc_heap_new W _, rfl⟩)
  case hbody =>
    rintro l pre x a' W _ _ ⟨hi, hb, hW⟩ ⟨Bx, hB, hbx, rfl⟩ hlt
    have hm : ∀ y ∈ itsOf pre ++ [x.1.it], y ∈ nodes g 1 0 := by
      intro y hy
      rw [← h1]
      rcases List.mem_append.1 hy with hy | hy
      · unfold itsOf at hy
        obtain ⟨z, _, rfl⟩ := List.mem_map.1 hy
        exact List.mem_map_of_mem z.2
      · rw [List.mem_singleton.1 hy]; exact List.mem_map_of_mem x.2
    have := hbody l (itsOf pre) x.1 Bx W hm (h2 _ x.2) hb (by have := hb.size; omega) hB hbx hi (by rw [hlen, itsOf]; simp; omega)
    refine wpIn_mono this ?_
    rintro e a3 W3 hp
    cases e with
    | normal =>
      obtain ⟨hs, hi3⟩ := hp
      exact ⟨hs.from_, hs.kp, by rw [itsOf_snoc]; exact hi3, hb.trans hs.kp.below, Nat.le_trans hW hs.kp.below.size⟩
    | ret =>
      obtain ⟨hs, hi3⟩ := hp
      exact ⟨hs.from_, rfl, by rw [itsOf_snoc]; exact hi3, hb.trans hs.kp.below⟩
    | exit id => exact hp.elim
    | goto t => exact hp.elim
    | panic ch => exact hp.elim
    | outgrown => exact hp.elim
  case hdone =>
    rintro D xs W hD rfl ⟨hi, hb, hW⟩ hK
    refine hdone D W hD ?_ hb hK
    rw [itsOf_all, h1] at hi
    exact hi
  case hstop =>
    rintro D c pre W hD hp ⟨rfl, hi, hb⟩ hK
    refine hstop D _ W hD ?_ hi hb hK
    rw [← h1, ← itsOf_all]
    exact hp.map _
end Go.Proofs.YtiiolhnpnlmkjaaDoor.Tree
