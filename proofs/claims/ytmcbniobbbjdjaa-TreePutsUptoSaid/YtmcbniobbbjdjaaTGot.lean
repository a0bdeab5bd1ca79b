/- What Find and Put answer, told by value and number; rows of whole numbers. No conditions but those told. -/
import Derived.Test.YtmcbniobbbjdjaaTRPut
import Derived.Test.YtmcbniobbbjdjaaTFlat
namespace Go.Proofs.Ytmcbniobbbjdjaa.Tree
open Go.RowKit Go.Proofs.YtmcbniobbbjdjaaW.PrintWords Go.Proofs.YtmcbniobbbjdjaaW.PrintLast Go.Proofs.YtmcbniobbbjdjaaW.PrintMore
set_option linter.unusedVariables false
set_option linter.unusedSimpArgs false
def findV (g : Ge) (q : List Int) : Ge := (findR g q).getD zGe
def findC (g : Ge) (q : List Int) : Int := if (findR g q).isSome then 0 else 153
def putV (g : Ge) (q : List Int) (p : Ge) : Ge := match findR g q with
  | none => zGe
  | some _ => putG g q p
/-- A tree of the call's own, or the one without anything. -/
def Got (w w' : World) (u : Value) (g : Ge) : Prop := (∃ n, CopyOf n w w' u g) ∨ u = noGe ∧ g = zGe
theorem Got.isG {w w' : World} {u : Value} {g : Ge} (h : Got w w' u g) : IsG w' u g := by
  rcases h with ⟨n, h⟩ | ⟨rfl, rfl⟩
  · exact h.isG
  · exact noGe_isG w'
theorem FindRes.got {w w' : World} {g : Ge} {q : List Int} {u : Value} {c : Int} (h : FindRes w w' g q u c) : Got w w' u (findV g q) ∧ c = findC g q := by
  unfold FindRes at h
  unfold findV findC
  cases e : findR g q with
  | none => rw [e] at h; obtain ⟨rfl, rfl⟩ := h; exact ⟨.inr ⟨rfl, rfl⟩, rfl⟩
  | some k => rw [e] at h; obtain ⟨h, rfl⟩ := h; exact ⟨.inl ⟨_, h⟩, rfl⟩
theorem PutRes.got {w w' : World} {g p : Ge} {q : List Int} {u : Value} {c : Int} (h : PutRes w w' g q p u c) : Got w w' u (putV g q p) ∧ c = findC g q := by
  unfold PutRes at h
  unfold putV findC
  cases e : findR g q with
  | none => rw [e] at h; obtain ⟨rfl, rfl⟩ := h; exact ⟨.inr ⟨rfl, rfl⟩, rfl⟩
  | some k => rw [e] at h; obtain ⟨h, rfl⟩ := h; exact ⟨.inl ⟨_, h⟩, rfl⟩
theorem RPutRes.got {N : Nat} {w w' : World} {g p : Ge} {q : List Int} {u : Value} {c : Int} (h : RPutRes N w w' g q p u c) : Got w w' u (putV g q p) ∧ c = findC g q := by
  unfold RPutRes at h
  unfold putV findC
  cases e : findR g q with
  | none => rw [e] at h; obtain ⟨rfl, rfl⟩ := h; exact ⟨.inr ⟨rfl, rfl⟩, rfl⟩
  | some k => rw [e] at h; obtain ⟨h, rfl⟩ := h; exact ⟨.inl ⟨_, h⟩, rfl⟩
/-- The tree stays where a block of another's is written. -/
def KeepG (w : World) (b : Nat) (u : Value) (g : Ge) : Prop := ∀ (vs : List Value) (o : Nat), IsG (w.setCells b o vs) u g
theorem Got.keep1 {w w1 : World} {u : Value} {g : Ge} (h : Got w w1 u g) (o : Obj) : KeepG (w1.alloc o) w1.heap.size u g := by
  intro vs k
  rcases h with ⟨n, cs, rfl, h⟩ | ⟨rfl, rfl⟩
  · have hb := (kSp n).M_bound h
    exact IsG.of (kSp_K n ((kSp n).K_of_M ((kSp n).M_move (w := w1) (w1 := (w1.alloc o).setCells w1.heap.size k vs) (fun x hx => (setCells_far vs k x (by have := hx.2.2.1; omega)).trans (Below.heap_alloc w1 o x hx.2.2.1)) hb)))
  · exact noGe_isG _
theorem Got.keep2 {w w1 : World} {u : Value} {g : Ge} (h : Got w w1 u g) {b : Nat} (hb : b < w.heap.size) : KeepG w1 b u g := by
  intro vs k
  rcases h with ⟨n, cs, rfl, h⟩ | ⟨rfl, rfl⟩
  · exact IsG.of (kSp_K n ((kSp n).K_of_M ((kSp n).M_move (w := w1) (w1 := w1.setCells b k vs) (fun x hx => setCells_far vs k x (by omega)) h)))
  · exact noGe_isG _
theorem zGe_bulk : zGe.bulk ≤ 1 := by rw [Ge.bulk_eq]; decide
theorem findV_bulk (g : Ge) (q : List Int) : (findV g q).bulk ≤ g.bulk := by
  have h1 := zGe_bulk
  have h2 := g.bulk_eq
  unfold findV
  cases e : findR g q with
  | none => show zGe.bulk ≤ _; omega
  | some k => exact at_bulk q g k (findR_at e)
theorem putV_bulk (g : Ge) (q : List Int) (p : Ge) : (putV g q p).bulk ≤ g.bulk + p.bulk := by
  have h1 := zGe_bulk
  have h2 := g.bulk_eq
  unfold putV
  cases e : findR g q with
  | none => show zGe.bulk ≤ _; omega
  | some k => exact putG_bulk p q g k (findR_at e)
theorem R_int0 (W : World) {base : Nat} (hb : base ≤ W.heap.size) (ok : Nat → Prop) (hok : ok W.heap.size) : Kd.R (Kd.int .i64) 3 (W.alloc (.cells #[] 3)) base ok (.slice (some ⟨W.heap.size, 0, none⟩) 0 0) [] := by
  refine ⟨fun k hk => ?_, [], ?_, rfl, fun j p hj => by simp at hj⟩
  · have : W.heap.size = k := by simpa [Value.ownBlock] using hk
    subst this
    exact hok
  · have h := World.ownsRow_lit (base := base) (e := 3) (size := 1) W #[] 0 hb (by decide) (by simp)
    exact h
theorem C_frontI {w : World} {A : Option Addr} {xs : List Int} {z : Int} (h : Kd.C (Kd.int .i64) w A (xs.length + 1) (xs ++ [z])) : Kd.C (Kd.int .i64) w A xs.length xs :=
  C_front h rfl rfl (fun j x y cs hx hy hk => by rw [hx] at hy; cases hy; exact hk)
end Go.Proofs.Ytmcbniobbbjdjaa.Tree
