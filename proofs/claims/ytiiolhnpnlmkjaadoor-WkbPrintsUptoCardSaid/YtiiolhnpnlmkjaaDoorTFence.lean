/- Rounds of a range over a function: what is walked plainly serves inside a round's frame, too. No conditions but those told. -/
import Derived.Test.YtiiolhnpnlmkjaaDoorTSem
import Derived.RangeFuncNested
import Derived.RangeFuncBound
import Derived.RangeFuncCalls
import Derived.RangeFuncLeaves
import Derived.OwnWalkIn
import Derived.TacticsInMore
import Derived.LoopNIn
import Derived.LoopIn
import Derived.OrdersIn
import Derived.StillTailTactics
import Derived.RangeFuncFrom
import Derived.RangeFuncWrites
namespace Go.Proofs.YtiiolhnpnlmkjaaDoor.Tree
open Go Go.RowKit
set_option linter.unusedVariables false

/-- A fence that asks nothing, inside a round or outside. -/
inductive Free : Fence → Prop where
  | plain : Free Fence.wide
  | round (l : Nat) : Free (Fence.wide.inRound l)
section
variable {F : Fence} {n : Nat} {P : Program}
theorem Free.fn (h : Free F) (f : FuncId) : F.fn f := by cases h <;> exact trivial
theorem Free.depth (h : Free F) : F.depth = none := by cases h <;> rfl
theorem Free.low (h : Free F) (p : Prop) : F.depth.isSome = true → p := fun e => by rw [h.depth] at e; cases e
theorem Free.calls (h : Free F) {f : FuncId} {args : Array Value} {w : World} {R : Ending → World → Prop} (hc : Calls P f args w R) : CallsIn F n P f args w R := by
  cases h with
  | plain => exact callsIn_wide.2 hc
  | round l => exact CallsIn.inRound l (callsIn_wide.2 hc)
theorem Free.rows (h : Free F) {row : String} {args : Array Value} {w : World} {R : Value → World → Prop} (hc : Rows P row args w R) : RowsIn F n P row args w R := by
  intro c cs _
  obtain ⟨v, w', r, s⟩ := hc c cs
  refine ⟨v, w', r, ?_⟩
  cases h with
  | plain => exact stepsIn_wide.2 s
  | round l => exact stepsIn_wide.2 s
/-- No operation is a defer statement. -/
def noDefer (o : Oper) : Bool := match o.op with
  | .defer _ => false
  | _ => true
theorem noDefer_ne {o : Oper} (h : noDefer o = true) (c : Call) : o.op ≠ .defer c := fun e => by unfold noDefer at h; rw [e] at h; cases h
theorem Free.oper (h : Free F) {o : Oper} (hd : noDefer o = true) {a : Act} {w : World} {K K' : Act → World → Prop} {Q : Exit → Act → World → Prop} (hK : ∀ a w, K a w → K' a w) (hw : o.wp P a w K Q) : o.wpIn F n P a w K' Q := by
  refine ⟨fun f _ => h.fn f, ?_⟩
  rw [Oper.semAt_eq _ _ _ (noDefer_ne hd)]
  unfold Oper.wp at hw
  generalize (execOp a.eval o).run P w = r at *
  cases r with
  | ok x w' =>
    cases x <;> simp only [Oper.upon] at hw <;> simp only [Oper.uponIn]
    case value u => exact hK _ _ hw
    case skip => exact hK _ _ hw
    case defer d => exact hK _ _ hw
    case enter f args => exact ⟨h.low _, (h.calls (n := n - 1) hw).mono (fun e w'' he => by cases e <;> first | exact hK _ _ he | exact he)⟩
    case row row args => exact ⟨h.low _, (h.rows (n := n - 1) hw).mono (fun v w'' he => hK _ _ he)⟩
  | halt x w' => cases x <;> simp only [Oper.upon] at hw <;> simp only [Oper.uponIn] <;> exact hw
theorem Free.list (h : Free F) {ops : Array Oper} {Q : Exit → Act → World → Prop} (hQ : ¬ LetsOut Q) : ∀ (l : List Oper) (a : Act) (w : World), l.all noDefer = true → wpList P ops Q l a w → wpListIn F n P ops Q l a w
  | [], _, _, _, hw => hw
  | o :: l, a, w, hd, hw => by
    simp only [List.all_cons, Bool.and_eq_true] at hd
    unfold wpList at hw
    unfold wpListIn
    split
    · rename_i hwn
      rw [if_pos hwn] at hw
      rcases hw with hw | hw
      · exact h.oper hd.1 (fun a w => Free.list h hQ l a w hd.2) hw
      · exact absurd hw.2 hQ
    · rename_i hwn
      rw [if_neg hwn] at hw
      exact ⟨fun f _ => h.fn f, Free.list h hQ l _ _ hd.2 hw⟩
theorem Free.op (h : Free F) {ops : Array Oper} {Q : Exit → Act → World → Prop} (hQ : ¬ LetsOut Q) (hd : ∀ (j : Nat) o, ops[j]? = some o → noDefer o = true) {i : Nat} {a : Act} {w : World} {K K' : Act → World → Prop} (hK : ∀ a w, K a w → K' a w) (hw : wpOp P ops Q i K a w) : wpOpIn F n P ops Q i K' a w := by
  unfold wpOp at hw
  unfold wpOpIn
  split
  · rename_i e; rw [e] at hw; exact hK _ _ hw
  · rename_i o e
    rw [e] at hw
    simp only at hw
    split
    · rename_i hwn
      rw [if_pos hwn] at hw
      rcases hw with hw | hw
      · exact h.oper (hd i o e) hK hw
      · exact absurd hw.2 hQ
    · rename_i hwn
      rw [if_neg hwn] at hw
      exact ⟨fun f _ => h.fn f, hK _ _ hw⟩
theorem Free.any (h : Free F) {ops : Array Oper} {md : Region.Mode} {Q : Exit → Act → World → Prop} (hQ : ¬ LetsOut Q) (hd : ∀ (j : Nat) o, ops[j]? = some o → noDefer o = true) : ∀ (fuel : Nat) (listed : Array Bool) (a : Act) (w : World), wpAny P md ops Q fuel listed a w → wpAnyIn F n P md ops Q fuel listed a w
  | 0, _, _, _, hw => hw
  | fuel + 1, listed, a, w, hw => ⟨hw.1, fun i hi => h.op hQ hd (fun a w => Free.any h hQ hd fuel _ a w) (hw.2 i hi)⟩
/-- A region that goes in the order of the text. -/
theorem Free.region (h : Free F) {id : Nat} {l : List Oper} {Q : Exit → Act → World → Prop} {a : Act} {w : World} (hQ : ¬ LetsOut Q) (hd : l.all noDefer = true) (hw : wpList P l.toArray Q l a w) : (Code.region id l.toArray false).wpIn F n P Q a w :=
  wpIn_region_lit (h.list hQ l a w hd hw)
/-- A region that draws its order. -/
theorem Free.draws (h : Free F) {id : Nat} {l : List Oper} {Q : Exit → Act → World → Prop} {a : Act} {w : World} (hm : P.follows .mixedOrders = true) (hQ : ¬ LetsOut Q) (hd : l.all noDefer = true)
    (hw : wpAny P .any l.toArray Q l.toArray.size (Array.replicate l.toArray.size false) a w.drew) : (Code.region id l.toArray true).wpIn F n P Q a w :=
  wpIn_region_any hm (h.any hQ (fun j o e => List.all_eq_true.1 hd o (by simpa using Array.mem_of_getElem? e)) _ _ _ _ hw)
end
section
variable {P : Program} {ops : Array Oper} {md : Region.Mode}
/-- What is read in any order, then a tail in one order. -/
theorem any_still_tail {Q : Exit → Act → World → Prop} {a : Act} {w : World} {l : List Oper} (n : Nat) (hB : Region.lexTailB .any l.toArray n = true)
    (h : wpStill P l.toArray w (fun a' => wpList P l.toArray Q (l.drop n) a' w) (l.take n) a) : wpAny P .any l.toArray Q l.toArray.size (Array.replicate l.toArray.size false) a w := by
  simp only [Region.lexTailB, Bool.and_eq_true, decide_eq_true_eq] at hB
  obtain ⟨⟨⟨⟨hsel, hn⟩, hs⟩, hc⟩, hlex⟩ := hB
  have hn' : n < l.length := by simpa using hn
  have htl : (l.take n).length = n := by simp; omega
  have hdl : (l.drop n).length = l.toArray.size - n := by simp
  have inv0 : HeadInv .any l.toArray n (Array.replicate l.toArray.size false) :=
    ⟨by simp, fun j oj _ hl => (by rw [getD_replicate_false] at hl; cases hl), fun t _ ht => getD_in (by simpa using ht) (getD_replicate_false _ _)⟩
  have H := wpAnyL_lex (md := .any) (g := l.toArray.size - n) hsel hs hc hn (l.take n) 0 _ a (fun j hj => by
    have hj' : j < n := by rw [htl] at hj; exact hj
    simp [hj']) (by simpa using htl) inv0 (by rw [htl]; exact hlex) h
  have := wpAny_of_head (Q' := Q) (g := l.toArray.size - n) (fun listed a' hL => by
    have := wpAny_of_seq (md := .any) (Q' := Q) (l.drop n) n listed a' w (fun j => by simp [List.getElem?_drop]) (by rw [hdl]; exact hL.1) hL.2
    rwa [hdl] at this) _ _ _ H
  rw [htl, show n + (l.toArray.size - n) = l.toArray.size by omega] at this
  exact this
/-- What is read in any order, and no more. -/
theorem any_still {Q : Exit → Act → World → Prop} {a : Act} {w : World} {l : List Oper} (hB : Region.lexB .any l.toArray = true)
    (h : wpStill P l.toArray w (fun a' => Q .normal a' w) l a) : wpAny P .any l.toArray Q l.toArray.size (Array.replicate l.toArray.size false) a w := by
  simp only [Region.lexB, Bool.and_eq_true] at hB
  refine wpAny_of_still (Q := fun a' => Q .normal a' w) (fun _ h => h) _ _ _ ?_
  have := wpAnyS_lex (md := .any) hB.1 l 0 (Array.replicate l.toArray.size false) a (by simp) (by simpa using hB.2) h
  simpa using this
end
end Go.Proofs.YtiiolhnpnlmkjaaDoor.Tree
