/- Texts of this claim laid one behind the other (PWkbPrintsx0; TReader; TBase; TSem; TRegion; TLeaf; TLists; TClass): what each proves stands at its own names; the last one is the claim's. No conditions but those told. -/
import Derived.Test.YtiiolhnpnlmkjaaDoorProg
import Derived.Below
import Derived.Deep.Draws
import Derived.Deep.AppendLies
import Derived.Maps.AppendAt
import Derived.OwnWalk
import Derived.Laws.BytesArg
import Derived.Laws.MakeOwn
import Derived.Laws.OwnMore
import Derived.Deep.OwnRows
import Derived.Tactics
import Derived.Lib.ConvBytes
import Derived.Laws.Slices
import Derived.WalkKit
import Derived.KernelRfl
import Derived.RowKit3
import Derived.Deep.LoopGhost
import Derived.Deep.QuietTactic
import Derived.BigQuiet
import Derived.WideLaws
import Derived.Deep.DeepCutAuto
import Derived.Deep.CutBlock
import Derived.Deep.RegionHeld3
import Derived.Laws.Rows
import Derived.Lib.AppendStr
import Derived.ArgAppend
import Derived.Laws.IdiomCopy
import Derived.OrdersHeld
import Derived.Laws.BitsLemmas
import Derived.RowKit
import Derived.Test.YtiiolhnpnlmkjaaDoorMathCopy
import Derived.Test.YtiiolhnpnlmkjaaDoorMathMake
import Derived.IntWalk
import Derived.Laws.BitsAllLaws
import Derived.RegionTactic
import Derived.Test.YtiiolhnpnlmkjaaDoorWWords
import Derived.Test.YtiiolhnpnlmkjaaDoorWLast
import Derived.Test.YtiiolhnpnlmkjaaDoorWTab
import Derived.Test.YtiiolhnpnlmkjaaDoorWFour
import Derived.Test.YtiiolhnpnlmkjaaDoorWQPut
import Derived.Test.YtiiolhnpnlmkjaaDoorWApart
import Derived.Test.YtiiolhnpnlmkjaaDoorWArr
import Derived.Test.YtiiolhnpnlmkjaaDoorWZeros
import Derived.Test.YtiiolhnpnlmkjaaDoorWFoot
import Derived.Test.YtiiolhnpnlmkjaaDoorWKept
import Derived.Test.YtiiolhnpnlmkjaaDoorWShare
import Derived.Test.YtiiolhnpnlmkjaaDoorWN
import Derived.Test.YtiiolhnpnlmkjaaDoorWFootNe
import Derived.Test.YtiiolhnpnlmkjaaDoorWAt
import Derived.Test.YtiiolhnpnlmkjaaDoorWEqStruct
import Derived.Test.YtiiolhnpnlmkjaaDoorWRepsOne
import Derived.Test.YtiiolhnpnlmkjaaDoorWInv
import Derived.Test.YtiiolhnpnlmkjaaDoorWInvWords
import Derived.Test.YtiiolhnpnlmkjaaDoorWGuard
import Derived.Test.YtiiolhnpnlmkjaaDoorWNEv
import Derived.Test.YtiiolhnpnlmkjaaDoorWMore
namespace Go.Proofs.YtiiolhnpnlmkjaaDoor.PWkbPrints
open Go.RowKit Go.Proofs.YtiiolhnpnlmkjaaDoorW.PrintWords Go.Proofs.YtiiolhnpnlmkjaaDoorW.PrintLast Go.Proofs.YtiiolhnpnlmkjaaDoorW.PrintMore
attribute [local go_sem] max2_int min2_int max_two min_two max_three min_three max_four min_four   -- for this text's walks alone



def errW : Option Int → Value
  | none => .nilIface
  | some c => .iface 70 (.int .i64 c)
theorem errW_none : errW none = .nilIface := rfl
theorem errW_some (c : Int) : errW (some c) = .iface 70 (.int .i64 c) := rfl

theorem info5 : (Tryd.prog.info? 5).map (fun i => (i.zero, i.size, i.bytes)) = some (some (.int .u8 0), 1, 1) := by kernel_rfl
theorem info82 : (Tryd.prog.info? 82).map (fun i => (i.zero, i.size, i.bytes)) = some (some (.agg #[(.int .u64 0), (.int .u64 0)]), 2, 16) := by kernel_rfl
-- the values' own types
structure S82 where
  f0 : Int
  f1 : Int
def k82 : Kd S82 := Kd.iso (Kd.pair (Kd.int .u64) (Kd.int .u64)) (fun x : S82 => (x.f0, x.f1))
def rd_L2 (xs : List (List S82)) (i : Int) : (List S82) := xs.getD i.toNat ([] : List S82)
theorem at_L2 {w : World} {A : Option Addr} {n : Nat} {xs : List (List S82)} (h : Kd.C (Kd.slice 82 k82) w A n xs) (i : Int) (h0 : 0 ≤ i) (h1 : i < n) : ∃ ad A0 c0, A = some ad ∧ w.cell? (ad.add i.toNat) = some (.slice A0 (rd_L2 xs i).length c0) ∧ (rd_L2 xs i).length ≤ c0 ∧ k82.C w A0 (rd_L2 xs i).length (rd_L2 xs i) := by
  obtain ⟨ad, c, e, _, hK, hc0⟩ := Kd.C_get h ([] : List S82) i h0 h1
  have hc : ∀ j u, c[j]? = some u → w.cell? (ad.add (i.toNat * 1 + j)) = some u := hc0
  obtain ⟨A0, c0, rfl, l0, g0⟩ := hK
  exact ⟨ad, A0, c0, e, by have hq := hc 0 _ rfl; rwa [Nat.mul_one, Nat.add_zero] at hq, l0, g0⟩

end Go.Proofs.YtiiolhnpnlmkjaaDoor.PWkbPrints
namespace Go.Proofs.YtiiolhnpnlmkjaaDoor.Rdr
open Go.RowKit Go.Proofs.YtiiolhnpnlmkjaaDoor.PWkbPrints Go.Proofs.YtiiolhnpnlmkjaaDoorW.PrintWords Go.Proofs.YtiiolhnpnlmkjaaDoorW.PrintLast Go.Proofs.YtiiolhnpnlmkjaaDoorW.PrintMore
attribute [local go_sem] max2_int min2_int max_two min_two max_three min_three max_four min_four

/-- A state of type 63 at block g of W; what its slices lead to came in by w0. -/
def IsS63 (w0 W : World) (g : Nat) (f0 : List Int) (f1 : Int) (f2 : Bool) : Prop := ∃ A0 c0, W.heap[g]? = some (.cells #[.slice A0 f0.length c0, .int .i64 f1, .bool f2] 171 (0, 0)) ∧ w0.heap.size ≤ g ∧ (Kd.C (Kd.int .u8) w0 A0 f0.length f0 ∧ f0.length ≤ c0)
theorem IsS63.grown {w0 W : World} {g : Nat} {f0 : List Int} {f1 : Int} {f2 : Bool} {W1 : World} {row : Option Nat} (h : IsS63 w0 W g f0 f1 f2) (hw : W.grownBy W1 row) (hne : some g ≠ row) : IsS63 w0 W1 g f0 f1 f2 := by
  obtain ⟨A0, c0, hb, hg, hr0⟩ := h
  exact ⟨A0, c0, blk_grown hb hw hne, hg, hr0⟩
theorem IsS63.below {w0 W : World} {g : Nat} {f0 : List Int} {f1 : Int} {f2 : Bool} {W1 : World} (h : IsS63 w0 W g f0 f1 f2) (hw : Below W.heap.size W W1) : IsS63 w0 W1 g f0 f1 f2 := h.grown (grown_of_below hw none) (by simp)
theorem IsS63.alloc {w0 W : World} {g : Nat} {f0 : List Int} {f1 : Int} {f2 : Bool} (h : IsS63 w0 W g f0 f1 f2) (o : Obj) : IsS63 w0 (W.alloc o) g f0 f1 f2 := h.below (below_alloc (Below.refl _ _) o)
theorem IsS63.drewN {w0 W : World} {g : Nat} {f0 : List Int} {f1 : Int} {f2 : Bool} (h : IsS63 w0 W g f0 f1 f2) (m : Nat) : IsS63 w0 (W.drewN m) g f0 f1 f2 := h
theorem IsS63.drew {w0 W : World} {g : Nat} {f0 : List Int} {f1 : Int} {f2 : Bool} (h : IsS63 w0 W g f0 f1 f2) : IsS63 w0 W.drew g f0 f1 f2 := h
theorem IsS63.at_ {w0 W : World} {g : Nat} {f0 : List Int} {f1 : Int} {f2 : Bool} {w' : World} {m : Nat} (hq : W.drewN m = w') (h : IsS63 w0 W g f0 f1 f2) : IsS63 w0 w' g f0 f1 f2 := by subst hq; exact IsS63.drewN h m
theorem IsS63.apart {w0 W : World} {g : Nat} {f0 : List Int} {f1 : Int} {f2 : Bool} {α : Type} {d : Kd α} {e : Nat} {base : Nat} {ok : Nat → Prop} {v : Value} {xs : List α} (h : IsS63 w0 W g f0 f1 f2) (ho : d.R e W base ok v xs) (ht : ∀ q, q ∈ e :: d.E → q ≠ 171) : d.R e W base (fun k => ok k ∧ k ≠ g) v xs := by
  obtain ⟨A0, c0, hb, hg, hr0⟩ := h
  exact Kd.R_types ho hb ht
theorem IsS63.ge {w0 W : World} {g : Nat} {f0 : List Int} {f1 : Int} {f2 : Bool} (h : IsS63 w0 W g f0 f1 f2) : w0.heap.size ≤ g := by
  obtain ⟨A0, c0, hb, hg, hr0⟩ := h
  exact hg
theorem IsS63.far {w0 W : World} {g : Nat} {f0 : List Int} {f1 : Int} {f2 : Bool} {p : Addr} (h : IsS63 w0 W g f0 f1 f2) (hne : g ≠ p.block) (u : Value) : IsS63 w0 (W.setCell p u) g f0 f1 f2 := by
  obtain ⟨A0, c0, hb, hg, hr0⟩ := h
  exact ⟨A0, c0, blk_far hb hne u, hg, hr0⟩
theorem cellS63_0 {W : World} {g : Nat} {A0 : Option Addr} {c0 : Nat} {f0 : List Int} {f1 : Int} {f2 : Bool} (h : W.heap[g]? = some (.cells #[.slice A0 f0.length c0, .int .i64 f1, .bool f2] 171 (0, 0))) : W.cell? ⟨g, 0, none⟩ = some (.slice A0 f0.length c0) := (blk_cell h 0).trans rfl
theorem cellS63_1 {W : World} {g : Nat} {A0 : Option Addr} {c0 : Nat} {f0 : List Int} {f1 : Int} {f2 : Bool} (h : W.heap[g]? = some (.cells #[.slice A0 f0.length c0, .int .i64 f1, .bool f2] 171 (0, 0))) : W.cell? ⟨g, 1, none⟩ = some (.int .i64 f1) := (blk_cell h 1).trans rfl
theorem IsS63.set_1 {w0 W : World} {g : Nat} {f0 : List Int} {f1 : Int} {f2 : Bool} (h : IsS63 w0 W g f0 f1 f2) (x : Int) : IsS63 w0 (W.setCell ⟨g, 1, none⟩ (.int .i64 x)) g f0 x f2 := by
  obtain ⟨A0, c0, hb, hg, hr0⟩ := h
  exact ⟨A0, c0, by simpa using blk_set hb 1 (.int .i64 x), hg, hr0⟩
theorem cellS63_2 {W : World} {g : Nat} {A0 : Option Addr} {c0 : Nat} {f0 : List Int} {f1 : Int} {f2 : Bool} (h : W.heap[g]? = some (.cells #[.slice A0 f0.length c0, .int .i64 f1, .bool f2] 171 (0, 0))) : W.cell? ⟨g, 2, none⟩ = some (.bool f2) := (blk_cell h 2).trans rfl
theorem IsS63.set_2 {w0 W : World} {g : Nat} {f0 : List Int} {f1 : Int} {f2 : Bool} (h : IsS63 w0 W g f0 f1 f2) (x : Bool) : IsS63 w0 (W.setCell ⟨g, 2, none⟩ (.bool x)) g f0 f1 x := by
  obtain ⟨A0, c0, hb, hg, hr0⟩ := h
  exact ⟨A0, c0, by simpa using blk_set hb 2 (.bool x), hg, hr0⟩

def octet_NewReader.f (l0 : List Int) : Option (List Int × Int × Bool) := if l0.length < 140737488355328 then some (l0, 0, false) else none
theorem newreader_info : (Tryd.prog.info? 5).map (fun i => (i.zero, i.size, i.bytes)) = some (some (.int .u8 0), 1, 1) := by kernel_rfl
/-- A reader: its bytes were made at some world behind w0, ahead of its own block. -/
def IsR (w0 W : World) (g : Nat) (f0 : List Int) (f1 : Int) (f2 : Bool) : Prop := ∃ w1, Below w0.heap.size w0 w1 ∧ Below w1.heap.size w1 W ∧ IsS63 w1 W g f0 f1 f2
set_option maxHeartbeats 8000000 in
set_option maxRecDepth 100000 in
theorem newreader_any (A0 : Option Addr) (c0 : Nat) (l0 : List Int) (w : World) (hr0 : Kd.C (Kd.int .u8) w A0 l0.length l0) (hc0 : l0.length ≤ c0) (hl : l0.length < 140737488355328) :
    Calls Tryd.prog 58 #[.slice A0 l0.length c0] w fun e w' => ∃ g_ : Nat, e = .returned (.pointer (some ⟨g_, 0, none⟩)) ∧ IsR w w' g_ l0 0 false ∧ Below w.heap.size w w' := by
  have hu63 := Tryd.underlying171
  have HR0 := Aside0.mk hr0
  have HC0 := Aside0.mk hc0
  have HB := Aside0.mk (Below.refl w.heap.size w)
  clear hr0 hc0
  obtain ⟨y101, hy101⟩ : ∃ y_ : List Int, y_ = (([] : List Int)) := ⟨_, rfl⟩
  have c2 : y101.length + l0.length < 140737488355328 := by rw [hy101]; simpa using hl
  have LMc2 := Aside0.mk c2
  clear c2
  have Ny101 := Aside0.mk hy101
  clear hy101
  obtain ⟨y104, hy104⟩ : ∃ y_ : List Int, y_ = (y101 ++ l0) := ⟨_, rfl⟩
  have Ny104 := Aside0.mk hy104
  clear hy104
  go_enter Tryd.func58, Tryd.ntmps58
  go_wp2_with (first | ((with_reducible refine gate_dst (N := 3) rfl ?_); refine Kd.R_lit (Kd.int .u8) _ 5 ?hg (N := 3) ?hd (xs := ([] : List Int)) (inner := []) (ok := fun _ => True) (okp := fun _ => True) ?hr ?hp (fun _ hk => hk) trivial (Below.refl _ _) (Nat.le_refl _) (by simp) ?_; (case hd => rfl); (case hg => rfl); (case hr => first | (go_simp; done) | (go_simp; rfl)); (case hp => exact (Reps.none _ _)); intro v102 w3 ho4 hb hg_ hnew_; clear hg_ hnew_; (first | rw [← Ny101.out] at ho4 | (simp only [Int.reduceToNat] at ho4; rw [← Ny101.out] at ho4)); have n0_ := Aside0.mk (Kd.R_lower ho4 (below_size (by repeat (first | (with_reducible first | exact HB.out | apply below_alloc | apply pw_below_drewN | apply below_drew1) | exact HB.out)))); have n1_ := Aside0.mk (below_step (by repeat (first | (with_reducible first | exact HB.out | apply below_alloc | apply pw_below_drewN | apply below_drew1) | exact HB.out)) hb); clear HB; have HO103 := n0_; have HB := n1_; clear n0_ n1_; clear hb ho4) | ((with_reducible refine gate_builtin (b := .append) (xs := #[.tmp 3, .tmp 4]) rfl ?_); at_builtin; refine Kd.R_append_rows (Kd.int .u8) (w0 := w) w.heap.size rfl (.tmp 3) (.tmp 4) 22 5 (.int .u8 0) 1 rfl Tryd.underlying22 newreader_info rfl (by decide) (by omega) v102 y101 l0 _ _ _ (fun _ => True) (fun _ => False) rfl rfl ?aO ?aR (fun _ _ h => h) (fun _ h => h.elim) ?aF ?aB ?aS ?aL ?_; (case aR => repeat (first | exact (Kd.C_below HR0.out HB.out) | (with_reducible refine Kd.C_alloc ?_ _) | (with_reducible refine Kd.C_drewN ?_ _) | (with_reducible refine Kd.C_drew ?_))); (case aB => exact (by repeat (first | (with_reducible first | exact HB.out | apply below_alloc | apply pw_below_drewN | apply below_drew1) | exact HB.out))); (case aF => exact (fun _ _ => trivial)); (case aO => exact (by (with_reducible repeat (first | apply Kd.R_alloc | apply Kd.R_drewN | apply Kd.R_drew)); exact HO103.out)); (case aS => exact (below_size (by repeat (first | (with_reducible first | exact HB.out | apply below_alloc | apply pw_below_drewN | apply below_drew1) | exact HB.out)))); (case aL => have := LMc2.out; omega); intro v105 w5 ho hb hg hat; rw [← Ny104.out] at ho; have n0_ := Aside0.mk (hb); have n1_ := Aside0.mk (ho); clear HB; clear HO103; have HB := n0_; have HO106 := n1_; clear n0_ n1_; clear ho hb hg hat; obtain ⟨Ao6, co6, eo6⟩ := Kd.R_slice HO106.out; subst eo6; have HC5 := Aside0.mk (Kd.R_reads' HO106.out); have HB5 := Aside0.mk HB.out) | ((with_reducible refine gate_dst (N := 7) rfl ?_); refine box_event ?hg (N := 7) ?hd (cs := #[.slice Ao6 y104.length co6, .int .i64 0, .bool false]) (t := 171) ?hr ?_; (case hd => rfl); (case hg => rfl); (case hr => first | (go_simp; done) | (go_simp; rfl)); intro gb107 hg w7 hbox hb; have HG5 := Aside0.mk hg; have HB57 := Aside0.mk hb; have n2_ := Aside0.mk (below_step HB.out hb); have n3_ := Aside0.mk hbox; clear HO106; clear HB; have HB := n2_; have BK107 := n3_; clear n2_ n3_; clear hb hbox hg))
  go_ret
  have ey : y104 = l0 := by rw [Ny104.out, Ny101.out]; rfl
  subst ey
  exact ⟨gb107, rfl, ⟨_, HB5.out, HB57.out, ⟨_, _, BK107.out, Nat.le_of_eq HG5.out.symm, HC5.out.2.2, HC5.out.2.1⟩⟩, HB.out⟩
theorem octet_NewReader.calls (A0 : Option Addr) (c0 : Nat) (l0 : List Int) (r1 : List Int) (r2 : Int) (r3 : Bool) (w0 w : World) (hB : Below w0.heap.size w0 w) (hr0 : Kd.C (Kd.int .u8) w A0 l0.length l0) (hc0 : l0.length ≤ c0) (h : octet_NewReader.f l0 = some (r1, r2, r3)) :
    Calls Tryd.prog 58 #[.slice A0 l0.length c0] w fun e w' => ∃ g_ : Nat, e = .returned (.pointer (some ⟨g_, 0, none⟩)) ∧ IsR w0 w' g_ r1 r2 r3 ∧ Below w0.heap.size w0 w' ∧ Below w.heap.size w w' := by
  unfold octet_NewReader.f at h
  by_cases c : l0.length < 140737488355328
  · rw [if_pos c] at h
    simp only [Option.some.injEq, Prod.mk.injEq] at h
    obtain ⟨rfl, rfl, rfl⟩ := h
    refine (newreader_any A0 c0 l0 w hr0 hc0 c).mono ?_
    rintro e w' ⟨g, he, ⟨w1, h1, h2, h3⟩, hb⟩
    exact ⟨g, he, ⟨w1, below_then hB hB.size h1, h2, h3⟩, below_then hB hB.size hb, hb⟩
  · rw [if_neg c] at h
    exact absurd h (by simp)
theorem IsR.below {w0 W : World} {g : Nat} {f0 : List Int} {f1 : Int} {f2 : Bool} {W1 : World} (h : IsR w0 W g f0 f1 f2) (hw : Below W.heap.size W W1) : IsR w0 W1 g f0 f1 f2 := by
  obtain ⟨w1, h1, h2, h3⟩ := h
  exact ⟨w1, h1, below_then h2 h2.size hw, h3.below hw⟩
theorem IsR.alloc {w0 W : World} {g : Nat} {f0 : List Int} {f1 : Int} {f2 : Bool} (h : IsR w0 W g f0 f1 f2) (o : Obj) : IsR w0 (W.alloc o) g f0 f1 f2 := h.below (below_alloc (Below.refl _ _) o)
theorem IsR.drewN {w0 W : World} {g : Nat} {f0 : List Int} {f1 : Int} {f2 : Bool} (h : IsR w0 W g f0 f1 f2) (m : Nat) : IsR w0 (W.drewN m) g f0 f1 f2 := h.below (pw_below_drewN (Below.refl _ _) m)
theorem IsR.drew {w0 W : World} {g : Nat} {f0 : List Int} {f1 : Int} {f2 : Bool} (h : IsR w0 W g f0 f1 f2) : IsR w0 W.drew g f0 f1 f2 := h.below (below_drew (Below.refl _ _))
theorem IsR.ge {w0 W : World} {g : Nat} {f0 : List Int} {f1 : Int} {f2 : Bool} (h : IsR w0 W g f0 f1 f2) : w0.heap.size ≤ g := by
  obtain ⟨w1, h1, h2, h3⟩ := h
  exact Nat.le_trans h1.size h3.ge
theorem IsR.apart {w0 W : World} {g : Nat} {f0 : List Int} {f1 : Int} {f2 : Bool} {α : Type} {d : Kd α} {e : Nat} {base : Nat} {ok : Nat → Prop} {v : Value} {xs : List α} (h : IsR w0 W g f0 f1 f2) (ho : d.R e W base ok v xs) (ht : ∀ q, q ∈ e :: d.E → q ≠ 171) : d.R e W base (fun k => ok k ∧ k ≠ g) v xs := by
  obtain ⟨w1, h1, h2, h3⟩ := h
  exact h3.apart ho ht

-- NOT PRINTED: function 10 (plumbref16_New)

set_option maxHeartbeats 4000000 in
set_option maxRecDepth 100000 in
/-- It is bad already. -/
theorem take_bad (g : Nat) (f0 : List Int) (f1 : Int) (n : Int) (le : Bool) (w0 w : World) (hI : IsS63 w0 w g f0 f1 true) (hB : Below w0.heap.size w0 w) :
    Calls Tryd.prog 107 #[.pointer (some ⟨g, 0, none⟩), .int .i64 n, .bool le] w fun e w' => e = .returned (.int .u64 0) ∧ IsS63 w0 w' g f0 f1 true ∧ Below w0.heap.size w0 w' ∧ KeepBut w w' g none := by
  obtain ⟨A0, c0, hb, hg, hr0⟩ := hI
  have h2 := cellS63_2 hb
  have hz2 : w.frozen? ⟨g, 2, none⟩ = false := by simp [World.frozen?, hb]
  have HB := Aside0.mk hb
  have HG := Aside0.mk hg
  have HR := Aside0.mk hr0
  have HBW := Aside0.mk hB
  clear hb hg hr0 hB
  go_enter Tryd.func107, Tryd.ntmps107
  go_wp2_with fail
  go_quiet (fail)
  go_wp2_with fail
  go_ret
  refine ⟨rfl, ⟨A0, c0, ?_, HG.out, HR.out⟩, ?_, ?_⟩
  · simpa using blk_set (blk_drewN HB.out _) 2 (.bool true)
  · exact (pw_below_drewN HBW.out _).setCell HG.out _
  · exact KeepBut.set_ (KeepBut.of_below (pw_below_drewN (Below.refl _ _) _) g none) 2 (.bool true)
set_option maxHeartbeats 4000000 in
set_option maxRecDepth 100000 in
/-- Too few bytes. -/
theorem take_short (g : Nat) (f0 : List Int) (f1 : Int) (n : Int) (le : Bool) (w0 w : World) (hI : IsS63 w0 w g f0 f1 false) (hB : Below w0.heap.size w0 w) (h0 : 0 ≤ f1) (h1 : f1 ≤ f0.length) (hn : (f0.length : Int) - f1 < n) (hl : f0.length ≤ 9223372036854775807) :
    Calls Tryd.prog 107 #[.pointer (some ⟨g, 0, none⟩), .int .i64 n, .bool le] w fun e w' => e = .returned (.int .u64 0) ∧ IsS63 w0 w' g f0 f1 true ∧ Below w0.heap.size w0 w' ∧ KeepBut w w' g none := by
  obtain ⟨A0, c0, hb, hg, hr0⟩ := hI
  have h2 := cellS63_2 hb
  have h3 := cellS63_1 hb
  have h4 := cellS63_0 hb
  have hz2 : w.frozen? ⟨g, 2, none⟩ = false := by simp [World.frozen?, hb]
  have q1 : IntKind.i64.wrap ((f0.length : Int) - f1) = (f0.length : Int) - f1 := by rw [i64_w]; unfold wrap64; omega
  have q2 : decide ((f0.length : Int) - f1 < n) = true := decide_eq_true hn
  have HB := Aside0.mk hb
  have HG := Aside0.mk hg
  have HR := Aside0.mk hr0
  have HBW := Aside0.mk hB
  clear hb hg hr0 hB
  go_enter Tryd.func107, Tryd.ntmps107
  go_wp2_with fail
  go_quiet (fail)
  go_wp2_with fail
  go_ret
  refine ⟨rfl, ⟨A0, c0, ?_, HG.out, HR.out⟩, ?_, ?_⟩
  · simpa using blk_set (blk_drewN HB.out _) 2 (.bool true)
  · exact (pw_below_drewN HBW.out _).setCell HG.out _
  · exact KeepBut.set_ (KeepBut.of_below (pw_below_drewN (Below.refl _ _) _) g none) 2 (.bool true)
/-- The number of bytes in an order: from a place on, over what was read. -/
def tkl : Nat → List Int → Bool → Int → Int → Option Int
  | 0, _, _, _, _ => none
  | k + 1, cs, le, i, v => if i < (cs.length : Int) then tkl k cs le (i + 1) (if le = true then Go.bits .or .u64 v (shl .u64 (IntKind.u64.wrap (rd cs i)) (8 * i)) else Go.bits .or .u64 (shl .u64 v 8) (IntKind.u64.wrap (rd cs i))) else some v
set_option maxHeartbeats 4000000 in
set_option maxRecDepth 100000 in
theorem take_some (k g : Nat) (f0 : List Int) (f1 : Int) (n r : Int) (le : Bool) (w0 w : World) (hI : IsS63 w0 w g f0 f1 false) (hB : Below w0.heap.size w0 w) (h0 : 0 ≤ f1) (h1 : f1 + n ≤ f0.length) (hn : 0 < n ∧ n ≤ 8) (hl : f0.length ≤ 9223372036854775807) (hk : tkl k ((f0.drop f1.toNat).take n.toNat) le 0 0 = some r) :
    Calls Tryd.prog 107 #[.pointer (some ⟨g, 0, none⟩), .int .i64 n, .bool le] w fun e w' => e = .returned (.int .u64 r) ∧ IsS63 w0 w' g f0 (f1 + n) false ∧ Below w0.heap.size w0 w' ∧ KeepBut w w' g none := by
  obtain ⟨A0, c0, hb, hg, hr0, hc0⟩ := hI
  have h2 := cellS63_2 hb
  have h3 := cellS63_1 hb
  have h4 := cellS63_0 hb
  have hz1 : w.frozen? ⟨g, 1, none⟩ = false := by simp [World.frozen?, hb]
  have q1 : IntKind.i64.wrap ((f0.length : Int) - f1) = (f0.length : Int) - f1 := by rw [i64_w]; unfold wrap64; omega
  have q2 : decide ((f0.length : Int) - f1 < n) = false := decide_eq_false (by omega)
  have q3 : wrap64 (f1 + n) = f1 + n := by unfold wrap64; omega
  have q3b : IntKind.i64.wrap (f1 + n) = f1 + n := (i64_w _).trans q3
  have q7 : (f1 + n ≤ (c0 : Int)) = True := eq_true (by omega)
  have q8 : (0 ≤ f1 + n) = True := eq_true (by omega)
  obtain ⟨P, rfl⟩ := Int.eq_ofNat_of_zero_le h0
  obtain ⟨m, rfl⟩ := Int.eq_ofNat_of_zero_le (show 0 ≤ n by omega)
  have q4 : (0 ≤ ((P : Nat) : Int)) = True := eq_true (by omega)
  have q5 : ((P : Int) ≤ (P : Int) + (m : Int)) = True := eq_true (by omega)
  have q6 : ((P : Int) + (m : Int) ≤ (f0.length : Int)) = True := eq_true h1
  have HLC := Aside0.mk hc0
  have HB := Aside0.mk hb
  have HG := Aside0.mk hg
  have HR := Aside0.mk hr0
  have HBW := Aside0.mk hB
  obtain ⟨ad, rfl, _⟩ := Kd.at_int hr0 0 (by omega) (by omega)
  obtain ⟨cs, hcs⟩ : ∃ cs, (f0.drop ((P : Int)).toNat).take ((m : Int)).toNat = cs := ⟨_, rfl⟩
  have hcl : cs.length = m := by rw [← hcs, List.length_take, List.length_drop]; omega
  have hcell : ∀ j : Int, 0 ≤ j → j < (m : Int) → w0.cell? ((ad.add P).add j.toNat) = some (.int .u8 (rd cs j)) := by
    intro j j0 j1
    obtain ⟨ad', e, hc⟩ := Kd.at_int hr0 ((P : Int) + j) (by omega) (by omega)
    obtain rfl := Option.some.inj e
    have e1 : (ad.add P).add j.toNat = ad.add ((P : Int) + j).toNat := by rw [Addr.add_add]; congr 1; omega
    have e2 : rd cs j = rd f0 ((P : Int) + j) := by
      rw [← hcs]
      simp only [rd, List.getD_eq_getElem?_getD]
      rw [List.getElem?_take_of_lt (by omega), List.getElem?_drop]
      congr 2
      omega
    rw [e1, e2]
    exact hc
  rw [hcs] at hk
  have q9 : P + m - P = m := by omega
  have HK := Aside0.mk hk
  have HCE := Aside0.mk hcell
  have HCL := Aside0.mk hcl
  clear hb hg hr0 hB hk hcell hcl
  go_enter Tryd.func107, Tryd.ntmps107
  go_wp2_with fail
  go_quiet (fail)
  go_wp2_with fail
  go_quiet (fail)
  go_wp2_with fail
  go_loopg [7, 47] k (fun kq v7 v47 w' => ∃ (v i : Int) (nn : Nat), v7 = .int .u64 v ∧ v47 = .int .i64 i ∧ w' = w.drewN nn ∧ Aside0 (tkl kq cs le i v = some r) ∧ Aside0 (0 ≤ i ∧ i ≤ (m : Int)) ∧ Aside0 (kq ≤ k))
  case atStart => exact ⟨0, 0, _, rfl, rfl, World.drewN_drewN _ _ _, HK, ⟨by omega⟩, ⟨Nat.le_refl _⟩⟩
  case round =>
    obtain ⟨v, i, nn, rfl, rfl, rfl, HA, HI, HKK⟩ := hrel
    cases gk with
    | zero => exact absurd HA.out (by simp [tkl])
    | succ k1 =>
      have H := HA.out
      clear HA
      simp only [tkl] at H
      have hi := HI.out
      by_cases c : i < (cs.length : Int)
      · rw [if_pos c] at H
        rw [HCL.out] at c
        have c1 : decide (i < (m : Int)) = true := decide_eq_true c
        have c2 : (0 ≤ i) = True := eq_true hi.1
        have c3 : (i < (m : Int)) = True := eq_true c
        have hc0 := HCE.out i hi.1 c
        have hc := (HBW.out.cell (World.block_lt_of_cell? w0 _ hc0)).trans hc0
        clear hc0
        obtain ⟨x, hx⟩ : ∃ x, rd cs i = x := ⟨_, rfl⟩
        obtain ⟨x1, hx1⟩ : ∃ x1, IntKind.u64.wrap x = x1 := ⟨_, rfl⟩
        rw [hx] at hc H
        rw [hx1] at H
        have e8 : wrap64 (8 * i) = 8 * i := by unfold wrap64; omega
        have e8b : IntKind.i64.wrap (8 * i) = 8 * i := (i64_w _).trans e8
        have c4 : (0 ≤ 8 * i) = True := eq_true (by omega)
        have c5 : (8 * i < 0) = False := eq_false (by omega)
        have e1 : wrap64 (i + 1) = i + 1 := by unfold wrap64; omega
        obtain ⟨sh, hsh⟩ : ∃ sh, shl .u64 x1 (8 * i) = sh := ⟨_, rfl⟩
        have hsh_ : (IntKind.u64.wrap (x1 * 2 ^ min (8 * i).toNat 64)) = sh := hsh
        have hshz : (IntKind.u64.wrap (x1 * 2 ^ (8 * i).toNat)) = sh := shl_small hsh (by simp [IntKind.bits]; omega)
        obtain ⟨sv, hsv⟩ : ∃ sv, shl .u64 v 8 = sv := ⟨_, rfl⟩
        have hsvz : (IntKind.u64.wrap (v * 256)) = sv := shl_small hsv (by simp [IntKind.bits])
        cases le
        · rw [if_neg (by decide), hsv] at H
          have H' := Aside0.mk H
          clear H
          go_wp2
          go_roundg k1
          case measure => have := HKK.out; omega
          case rel => exact ⟨_, _, _, rfl, rfl, rfl, H', ⟨by omega⟩, ⟨by have := HKK.out; omega⟩⟩
        · rw [if_pos rfl, hsh] at H
          have H' := Aside0.mk H
          clear H
          go_wp2
          go_roundg k1
          case measure => have := HKK.out; omega
          case rel => exact ⟨_, _, _, rfl, rfl, rfl, H', ⟨by omega⟩, ⟨by have := HKK.out; omega⟩⟩
      · rw [if_neg c] at H
        rw [HCL.out] at c
        have c1 : decide (i < (m : Int)) = false := decide_eq_false c
        have c3 : (i < (m : Int)) = False := eq_false c
        obtain rfl := Option.some.inj H
        go_wp2_with fail
        go_ret
        refine ⟨rfl, ⟨some ad, c0, ?_, HG.out, HR.out, HLC.out⟩, ?_, ?_⟩
        · simpa using blk_set (blk_drewN HB.out _) 1 (.int .i64 ((P : Int) + (m : Int)))
        · exact (pw_below_drewN HBW.out _).setCell HG.out _
        · exact KeepBut.set_ (KeepBut.of_below (pw_below_drewN (Below.refl _ _) _) g none) 1 (.int .i64 ((P : Int) + (m : Int)))
def octet_Reader_take.f (s0_0 : List Int) (s0_1 : Int) (s0_2 : Bool) (a1 : Int) (a2 : Bool) : Option (Int × Int × Bool) := if s0_2 = true then some (0, s0_1, true) else if (0 ≤ s0_1 ∧ s0_1 ≤ s0_0.length ∧ s0_0.length ≤ 9223372036854775807) ∧ 0 < a1 ∧ a1 ≤ 8 then (if (s0_0.length : Int) - s0_1 < a1 then some (0, s0_1, true) else (tkl 20 ((s0_0.drop s0_1.toNat).take a1.toNat) a2 0 0).bind fun r => some (r, s0_1 + a1, false)) else none
theorem octet_Reader_take.calls (g : Nat) (s0_0 : List Int) (s0_1 : Int) (s0_2 : Bool) (a1 : Int) (a2 : Bool) (r1 : Int) (r2 : Int) (r3 : Bool) (w0 w : World) (hI : IsS63 w0 w g s0_0 s0_1 s0_2) (hB : Below w0.heap.size w0 w) (h : octet_Reader_take.f s0_0 s0_1 s0_2 a1 a2 = some (r1, r2, r3)) :
    Calls Tryd.prog 107 #[.pointer (some ⟨g, 0, none⟩), .int .i64 a1, .bool a2] w fun e w' => e = .returned (.int .u64 r1) ∧ IsS63 w0 w' g s0_0 r2 r3 ∧ Below w0.heap.size w0 w' ∧ KeepBut w w' g none := by
  unfold octet_Reader_take.f at h
  by_cases c : s0_2 = true
  · subst c
    rw [if_pos rfl] at h
    simp only [Option.some.injEq, Prod.mk.injEq] at h
    obtain ⟨rfl, rfl, rfl⟩ := h
    exact take_bad g s0_0 s0_1 a1 a2 w0 w hI hB
  · obtain rfl : s0_2 = false := Bool.eq_false_iff.mpr c
    rw [if_neg c] at h
    by_cases c2 : (0 ≤ s0_1 ∧ s0_1 ≤ s0_0.length ∧ s0_0.length ≤ 9223372036854775807) ∧ 0 < a1 ∧ a1 ≤ 8
    · rw [if_pos c2] at h
      by_cases c3 : (s0_0.length : Int) - s0_1 < a1
      · rw [if_pos c3] at h
        simp only [Option.some.injEq, Prod.mk.injEq] at h
        obtain ⟨rfl, rfl, rfl⟩ := h
        exact take_short g s0_0 s0_1 a1 a2 w0 w hI hB c2.1.1 c2.1.2.1 c3 c2.1.2.2
      · rw [if_neg c3] at h
        obtain ⟨r, hr, h⟩ := Option.bind_eq_some_iff.mp h
        simp only [Option.some.injEq, Prod.mk.injEq] at h
        obtain ⟨rfl, rfl, rfl⟩ := h
        exact take_some 20 g s0_0 s0_1 a1 r a2 w0 w hI hB c2.1.1 (by omega) c2.2 c2.1.2.2 hr
    · rw [if_neg c2] at h
      exact absurd h (by simp)

def octet_Reader_Byte.f (s0_0 : List Int) (s0_1 : Int) (s0_2 : Bool) : Option (Int × Int × Bool) := (octet_Reader_take.f s0_0 s0_1 s0_2 1 false).bind fun bt123 => (some ((bt123.1) % 256, bt123.2.1, bt123.2.2))
set_option maxHeartbeats 8000000 in
set_option maxRecDepth 100000 in
theorem octet_Reader_Byte.calls (g : Nat) (s0_0 : List Int) (s0_1 : Int) (s0_2 : Bool) (r1 : Int) (r2 : Int) (r3 : Bool) (w0 w : World) (hI : IsS63 w0 w g s0_0 s0_1 s0_2) (hB : Below w0.heap.size w0 w) (h : octet_Reader_Byte.f s0_0 s0_1 s0_2 = some (r1, r2, r3)) :
    Calls Tryd.prog 89 #[.pointer (some ⟨g, 0, none⟩)] w fun e w' => e = .returned (.int .u8 r1) ∧ IsS63 w0 w' g s0_0 r2 r3 ∧ Below w0.heap.size w0 w' ∧ KeepBut w w' g none := by
  have HI0 := Aside0.mk hI
  have HK := Aside0.mk (KeepBut.refl w g none)
  have HL := Aside0.mk hB.size
  clear hI
  have HW0 := Aside0.mk hB.size
  have HB := Aside0.mk hB
  clear hB
  have H : ((octet_Reader_take.f s0_0 s0_1 s0_2 1 false).bind fun bt123 => (some ((bt123.1) % 256, bt123.2.1, bt123.2.2))) = some (r1, r2, r3) := h
  clear h
  replace H := Option.bind_eq_some_iff.mp H
  obtain ⟨⟨t123, t124, t125⟩, A20, H⟩ := H
  replace H : (some ((t123) % 256, t124, t125)) = some (r1, r2, r3) := H
  have A2 := Aside0.mk A20
  clear A20
  simp only [Option.some.injEq, Prod.mk.injEq] at H
  obtain ⟨rfl, rfl, rfl⟩ := H
  go_enter Tryd.func89, Tryd.ntmps89
  go_wp2_with (first | ((with_reducible refine gate_callee (f := 107) rfl ?_); refine goesL_ (some 4) rfl rfl Tryd.func107 (by kernel_rfl) rfl #[.pointer (some ⟨g, 0, none⟩), .int .i64 1, .bool false] rfl (by (try simp only [List.map_toArray, List.map_cons, List.map_nil]); first | done | rfl | (simp only [List.length_drop, List.length_take]; rfl)) ?_; (with_reducible refine (octet_Reader_take.calls g s0_0 s0_1 s0_2 1 false t123 t124 t125 w0 _ ?side1 ?side2 A2.out).mono ?_); (case side1 => repeat (first | (with_reducible first | exact HI0.out | apply IsS63.alloc | apply IsS63.drewN | apply IsS63.drew | apply IsS63.set_1 | apply IsS63.set_2) | exact HI0.out)); (case side2 => repeat (first | (with_reducible first | exact HB.out | apply below_alloc | apply pw_below_drewN | apply below_drew1 | refine below_set ?_ (IsS63.ge HI0.out)) | exact HB.out)); rintro e w3 ⟨rfl, hi, hb, hk⟩; refine ⟨_, rfl, ?_⟩; have n0_ := Aside0.mk (KeepBut.trans (by repeat (first | (with_reducible first | exact HK.out | apply KeepBut.set_ | apply keep_drewN | apply keep_drew | apply keep_alloc) | exact HK.out)) hk (.inl rfl)); have n1_ := Aside0.mk (hb); have n2_ := Aside0.mk (hi); clear HK; clear HB; clear HI0; have HK := n0_; have HB := n1_; have HI0 := n2_; clear n0_ n1_ n2_; (try clear hb); (try clear hb2); (try clear hk); (try clear hi)))
  go_ret
  exact ⟨by first | rfl | (simp [errW_none, errW_some] <;> rfl) | (simp [*, errW_none, errW_some] <;> rfl), by repeat (first | (with_reducible first | exact HI0.out | apply IsS63.alloc | apply IsS63.drewN | apply IsS63.drew | apply IsS63.set_1 | apply IsS63.set_2) | exact HI0.out), by repeat (first | (with_reducible first | exact HB.out | apply below_alloc | apply pw_below_drewN | apply below_drew1 | refine below_set ?_ (IsS63.ge HI0.out)) | exact HB.out), by repeat (first | (with_reducible first | exact HK.out | apply KeepBut.set_ | apply keep_drewN | apply keep_drew | apply keep_alloc) | exact HK.out)⟩

def octet_Reader_Word32.f (s0_0 : List Int) (s0_1 : Int) (s0_2 : Bool) (a1 : Bool) : Option (Int × Int × Bool) := (octet_Reader_take.f s0_0 s0_1 s0_2 4 a1).bind fun bt126 => (some ((bt126.1) % 4294967296, bt126.2.1, bt126.2.2))
set_option maxHeartbeats 8000000 in
set_option maxRecDepth 100000 in
theorem octet_Reader_Word32.calls (g : Nat) (s0_0 : List Int) (s0_1 : Int) (s0_2 : Bool) (a1 : Bool) (r1 : Int) (r2 : Int) (r3 : Bool) (w0 w : World) (hI : IsS63 w0 w g s0_0 s0_1 s0_2) (hB : Below w0.heap.size w0 w) (h : octet_Reader_Word32.f s0_0 s0_1 s0_2 a1 = some (r1, r2, r3)) :
    Calls Tryd.prog 90 #[.pointer (some ⟨g, 0, none⟩), .bool a1] w fun e w' => e = .returned (.int .u32 r1) ∧ IsS63 w0 w' g s0_0 r2 r3 ∧ Below w0.heap.size w0 w' ∧ KeepBut w w' g none := by
  have HI0 := Aside0.mk hI
  have HK := Aside0.mk (KeepBut.refl w g none)
  have HL := Aside0.mk hB.size
  clear hI
  have HW0 := Aside0.mk hB.size
  have HB := Aside0.mk hB
  clear hB
  have H : ((octet_Reader_take.f s0_0 s0_1 s0_2 4 a1).bind fun bt126 => (some ((bt126.1) % 4294967296, bt126.2.1, bt126.2.2))) = some (r1, r2, r3) := h
  clear h
  replace H := Option.bind_eq_some_iff.mp H
  obtain ⟨⟨t126, t127, t128⟩, A30, H⟩ := H
  replace H : (some ((t126) % 4294967296, t127, t128)) = some (r1, r2, r3) := H
  have A3 := Aside0.mk A30
  clear A30
  simp only [Option.some.injEq, Prod.mk.injEq] at H
  obtain ⟨rfl, rfl, rfl⟩ := H
  go_enter Tryd.func90, Tryd.ntmps90
  go_wp2_with (first | ((with_reducible refine gate_callee (f := 107) rfl ?_); refine goesL_ (some 7) rfl rfl Tryd.func107 (by kernel_rfl) rfl #[.pointer (some ⟨g, 0, none⟩), .int .i64 4, .bool a1] rfl (by (try simp only [List.map_toArray, List.map_cons, List.map_nil]); first | done | rfl | (simp only [List.length_drop, List.length_take]; rfl)) ?_; (with_reducible refine (octet_Reader_take.calls g s0_0 s0_1 s0_2 4 a1 t126 t127 t128 w0 _ ?side1 ?side2 A3.out).mono ?_); (case side1 => repeat (first | (with_reducible first | exact HI0.out | apply IsS63.alloc | apply IsS63.drewN | apply IsS63.drew | apply IsS63.set_1 | apply IsS63.set_2) | exact HI0.out)); (case side2 => repeat (first | (with_reducible first | exact HB.out | apply below_alloc | apply pw_below_drewN | apply below_drew1 | refine below_set ?_ (IsS63.ge HI0.out)) | exact HB.out)); rintro e w4 ⟨rfl, hi, hb, hk⟩; refine ⟨_, rfl, ?_⟩; have n0_ := Aside0.mk (KeepBut.trans (by repeat (first | (with_reducible first | exact HK.out | apply KeepBut.set_ | apply keep_drewN | apply keep_drew | apply keep_alloc) | exact HK.out)) hk (.inl rfl)); have n1_ := Aside0.mk (hb); have n2_ := Aside0.mk (hi); clear HK; clear HB; clear HI0; have HK := n0_; have HB := n1_; have HI0 := n2_; clear n0_ n1_ n2_; (try clear hb); (try clear hb2); (try clear hk); (try clear hi)))
  go_ret
  exact ⟨by first | rfl | (simp [errW_none, errW_some] <;> rfl) | (simp [*, errW_none, errW_some] <;> rfl), by repeat (first | (with_reducible first | exact HI0.out | apply IsS63.alloc | apply IsS63.drewN | apply IsS63.drew | apply IsS63.set_1 | apply IsS63.set_2) | exact HI0.out), by repeat (first | (with_reducible first | exact HB.out | apply below_alloc | apply pw_below_drewN | apply below_drew1 | refine below_set ?_ (IsS63.ge HI0.out)) | exact HB.out), by repeat (first | (with_reducible first | exact HK.out | apply KeepBut.set_ | apply keep_drewN | apply keep_drew | apply keep_alloc) | exact HK.out)⟩

def octet_Reader_Word64.f (s0_0 : List Int) (s0_1 : Int) (s0_2 : Bool) (a1 : Bool) : Option (Int × Int × Bool) := (octet_Reader_take.f s0_0 s0_1 s0_2 8 a1).bind fun bt129 => (some (bt129.1, bt129.2.1, bt129.2.2))
set_option maxHeartbeats 8000000 in
set_option maxRecDepth 100000 in
theorem octet_Reader_Word64.calls (g : Nat) (s0_0 : List Int) (s0_1 : Int) (s0_2 : Bool) (a1 : Bool) (r1 : Int) (r2 : Int) (r3 : Bool) (w0 w : World) (hI : IsS63 w0 w g s0_0 s0_1 s0_2) (hB : Below w0.heap.size w0 w) (h : octet_Reader_Word64.f s0_0 s0_1 s0_2 a1 = some (r1, r2, r3)) :
    Calls Tryd.prog 108 #[.pointer (some ⟨g, 0, none⟩), .bool a1] w fun e w' => e = .returned (.int .u64 r1) ∧ IsS63 w0 w' g s0_0 r2 r3 ∧ Below w0.heap.size w0 w' ∧ KeepBut w w' g none := by
  have HI0 := Aside0.mk hI
  have HK := Aside0.mk (KeepBut.refl w g none)
  have HL := Aside0.mk hB.size
  clear hI
  have HW0 := Aside0.mk hB.size
  have HB := Aside0.mk hB
  clear hB
  have H : ((octet_Reader_take.f s0_0 s0_1 s0_2 8 a1).bind fun bt129 => (some (bt129.1, bt129.2.1, bt129.2.2))) = some (r1, r2, r3) := h
  clear h
  replace H := Option.bind_eq_some_iff.mp H
  obtain ⟨⟨t129, t130, t131⟩, A30, H⟩ := H
  replace H : (some (t129, t130, t131)) = some (r1, r2, r3) := H
  have A3 := Aside0.mk A30
  clear A30
  simp only [Option.some.injEq, Prod.mk.injEq] at H
  obtain ⟨rfl, rfl, rfl⟩ := H
  go_enter Tryd.func108, Tryd.ntmps108
  go_wp2_with (first | ((with_reducible refine gate_callee (f := 107) rfl ?_); refine goesL_ (some 7) rfl rfl Tryd.func107 (by kernel_rfl) rfl #[.pointer (some ⟨g, 0, none⟩), .int .i64 8, .bool a1] rfl (by (try simp only [List.map_toArray, List.map_cons, List.map_nil]); first | done | rfl | (simp only [List.length_drop, List.length_take]; rfl)) ?_; (with_reducible refine (octet_Reader_take.calls g s0_0 s0_1 s0_2 8 a1 t129 t130 t131 w0 _ ?side1 ?side2 A3.out).mono ?_); (case side1 => repeat (first | (with_reducible first | exact HI0.out | apply IsS63.alloc | apply IsS63.drewN | apply IsS63.drew | apply IsS63.set_1 | apply IsS63.set_2) | exact HI0.out)); (case side2 => repeat (first | (with_reducible first | exact HB.out | apply below_alloc | apply pw_below_drewN | apply below_drew1 | refine below_set ?_ (IsS63.ge HI0.out)) | exact HB.out)); rintro e w4 ⟨rfl, hi, hb, hk⟩; refine ⟨_, rfl, ?_⟩; have n0_ := Aside0.mk (KeepBut.trans (by repeat (first | (with_reducible first | exact HK.out | apply KeepBut.set_ | apply keep_drewN | apply keep_drew | apply keep_alloc) | exact HK.out)) hk (.inl rfl)); have n1_ := Aside0.mk (hb); have n2_ := Aside0.mk (hi); clear HK; clear HB; clear HI0; have HK := n0_; have HB := n1_; have HI0 := n2_; clear n0_ n1_ n2_; (try clear hb); (try clear hb2); (try clear hk); (try clear hi)))
  go_ret
  exact ⟨by first | rfl | (simp [errW_none, errW_some] <;> rfl) | (simp [*, errW_none, errW_some] <;> rfl), by repeat (first | (with_reducible first | exact HI0.out | apply IsS63.alloc | apply IsS63.drewN | apply IsS63.drew | apply IsS63.set_1 | apply IsS63.set_2) | exact HI0.out), by repeat (first | (with_reducible first | exact HB.out | apply below_alloc | apply pw_below_drewN | apply below_drew1 | refine below_set ?_ (IsS63.ge HI0.out)) | exact HB.out), by repeat (first | (with_reducible first | exact HK.out | apply KeepBut.set_ | apply keep_drewN | apply keep_drew | apply keep_alloc) | exact HK.out)⟩

def octet_Reader_At.f (s0_0 : List Int) (s0_1 : Int) (s0_2 : Bool) : Option (Int × Int × Bool) := some (s0_1, s0_1, s0_2)
set_option maxHeartbeats 8000000 in
set_option maxRecDepth 100000 in
theorem octet_Reader_At.calls (g : Nat) (s0_0 : List Int) (s0_1 : Int) (s0_2 : Bool) (r1 : Int) (r2 : Int) (r3 : Bool) (w0 w : World) (hI : IsS63 w0 w g s0_0 s0_1 s0_2) (hB : Below w0.heap.size w0 w) (h : octet_Reader_At.f s0_0 s0_1 s0_2 = some (r1, r2, r3)) :
    Calls Tryd.prog 61 #[.pointer (some ⟨g, 0, none⟩)] w fun e w' => e = .returned (.int .i64 r1) ∧ IsS63 w0 w' g s0_0 r2 r3 ∧ Below w0.heap.size w0 w' ∧ KeepBut w w' g none := by
  have HI0 := Aside0.mk hI
  have HK := Aside0.mk (KeepBut.refl w g none)
  have HL := Aside0.mk hB.size
  clear hI
  have HW0 := Aside0.mk hB.size
  have HB := Aside0.mk hB
  clear hB
  have H : (some (s0_1, s0_1, s0_2)) = some (r1, r2, r3) := h
  clear h
  simp only [Option.some.injEq, Prod.mk.injEq] at H
  obtain ⟨rfl, rfl, rfl⟩ := H
  obtain ⟨ASz2_0, cSz2_0, HGz2, hgz2, HSz2_0⟩ := HI0.out
  have hcz2_0 := cellS63_0 HGz2
  have hcz2_1 := cellS63_1 HGz2
  have hcz2_2 := cellS63_2 HGz2
  have hfz2_1 := blk_frozen HGz2 1
  have hfz2_2 := blk_frozen HGz2 2
  clear HGz2 hgz2
  go_enter Tryd.func61, Tryd.ntmps61
  go_wp2
  go_ret
  exact ⟨by first | rfl | (simp [errW_none, errW_some] <;> rfl) | (simp [*, errW_none, errW_some] <;> rfl), by repeat (first | (with_reducible first | exact HI0.out | apply IsS63.alloc | apply IsS63.drewN | apply IsS63.drew | apply IsS63.set_1 | apply IsS63.set_2) | exact HI0.out), by repeat (first | (with_reducible first | exact HB.out | apply below_alloc | apply pw_below_drewN | apply below_drew1 | refine below_set ?_ (IsS63.ge HI0.out)) | exact HB.out), by repeat (first | (with_reducible first | exact HK.out | apply KeepBut.set_ | apply keep_drewN | apply keep_drew | apply keep_alloc) | exact HK.out)⟩

def octet_Reader_Left.f (s0_0 : List Int) (s0_1 : Int) (s0_2 : Bool) : Option (Int × Int × Bool) := some (wrap64 ((s0_0.length : Int) - s0_1), s0_1, s0_2)
set_option maxHeartbeats 8000000 in
set_option maxRecDepth 100000 in
theorem octet_Reader_Left.calls (g : Nat) (s0_0 : List Int) (s0_1 : Int) (s0_2 : Bool) (r1 : Int) (r2 : Int) (r3 : Bool) (w0 w : World) (hI : IsS63 w0 w g s0_0 s0_1 s0_2) (hB : Below w0.heap.size w0 w) (h : octet_Reader_Left.f s0_0 s0_1 s0_2 = some (r1, r2, r3)) :
    Calls Tryd.prog 60 #[.pointer (some ⟨g, 0, none⟩)] w fun e w' => e = .returned (.int .i64 r1) ∧ IsS63 w0 w' g s0_0 r2 r3 ∧ Below w0.heap.size w0 w' ∧ KeepBut w w' g none := by
  have HI0 := Aside0.mk hI
  have HK := Aside0.mk (KeepBut.refl w g none)
  have HL := Aside0.mk hB.size
  clear hI
  have HW0 := Aside0.mk hB.size
  have HB := Aside0.mk hB
  clear hB
  have H : (some (wrap64 ((s0_0.length : Int) - s0_1), s0_1, s0_2)) = some (r1, r2, r3) := h
  clear h
  simp only [Option.some.injEq, Prod.mk.injEq] at H
  obtain ⟨rfl, rfl, rfl⟩ := H
  obtain ⟨ASz2_0, cSz2_0, HGz2, hgz2, HSz2_0⟩ := HI0.out
  have hcz2_0 := cellS63_0 HGz2
  have hcz2_1 := cellS63_1 HGz2
  have hcz2_2 := cellS63_2 HGz2
  have hfz2_1 := blk_frozen HGz2 1
  have hfz2_2 := blk_frozen HGz2 2
  clear HGz2 hgz2
  go_enter Tryd.func60, Tryd.ntmps60
  go_wp2
  repeat (go_quiet (fail); try go_wp2)
  go_ret
  exact ⟨by first | rfl | (simp [errW_none, errW_some] <;> rfl) | (simp [*, errW_none, errW_some] <;> rfl), by repeat (first | (with_reducible first | exact HI0.out | apply IsS63.alloc | apply IsS63.drewN | apply IsS63.drew | apply IsS63.set_1 | apply IsS63.set_2) | exact HI0.out), by repeat (first | (with_reducible first | exact HB.out | apply below_alloc | apply pw_below_drewN | apply below_drew1 | refine below_set ?_ (IsS63.ge HI0.out)) | exact HB.out), by repeat (first | (with_reducible first | exact HK.out | apply KeepBut.set_ | apply keep_drewN | apply keep_drew | apply keep_alloc) | exact HK.out)⟩

-- NOT PRINTED: function 42 (reflectlite_ValueOf)

-- NOT PRINTED: function 43 (reflectlite_Value_Type)

-- NOT PRINTED: function 44 (reflectlite_Value_IsNil)

-- NOT PRINTED: function 46 (reflectlite_TypeOf)

-- NOT PRINTED: function 47 (reflectlite_Value_Elem)

-- NOT PRINTED: function 48 (reflectlite_Value_Set)

-- NOT PRINTED: function 45 (errors_as)

-- NOT PRINTED: function 39 (errors_As)

-- NOT PRINTED: function 30 (api_Code)

-- NOT PRINTED: function 31 (api_Place)

end Go.Proofs.YtiiolhnpnlmkjaaDoor.Rdr
namespace Go.Proofs.YtiiolhnpnlmkjaaDoor.Tree
open Go.RowKit Go.Proofs.YtiiolhnpnlmkjaaDoorW.PrintWords Go.Proofs.YtiiolhnpnlmkjaaDoorW.PrintLast Go.Proofs.YtiiolhnpnlmkjaaDoorW.PrintMore

structure Pt where
  f0 : Int
  f1 : Int
def zPt : Pt := ⟨(0 : Int), (0 : Int)⟩
def kPt : Kd Pt := Kd.iso (Kd.pair (Kd.int .u64) (Kd.int .u64)) (fun x : Pt => (x.f0, x.f1))
theorem kPt_open {w : World} {x : Pt} {cs : List Value} (h : kPt.K w x cs) : cs = [.int .u64 x.f0, .int .u64 x.f1] := by
  obtain ⟨_, _, rfl, rfl, rfl⟩ := h
  exact rfl
theorem kPt_openM {w : World} {base : Nat} {ok : Nat → Prop} {x : Pt} {cs : List Value} (h : kPt.M w base ok x cs) : cs = [.int .u64 x.f0, .int .u64 x.f1] := by
  obtain ⟨_, _, rfl, rfl, rfl⟩ := h
  exact rfl
theorem kPt_mk (w : World) (x : Pt)  : kPt.K w x [.int .u64 x.f0, .int .u64 x.f1] := ⟨[.int .u64 x.f0], [.int .u64 x.f1], rfl, rfl, rfl⟩
theorem kPt_mkM (w : World) (base : Nat) (ok : Nat → Prop) (x : Pt)  : kPt.M w base ok x [.int .u64 x.f0, .int .u64 x.f1] := ⟨[.int .u64 x.f0], [.int .u64 x.f1], rfl, rfl, rfl⟩
def rd_Pt (xs : List Pt) (i : Int) : Pt := xs.getD i.toNat zPt
theorem at_Pt {w : World} {A : Option Addr} {n : Nat} {xs : List Pt} (h : Kd.C kPt w A n xs) (i : Int) (h0 : 0 ≤ i) (h1 : i < n) : ∃ ad , A = some ad ∧ w.cell? (ad.add (i.toNat * 2)) = some (.int .u64 (rd_Pt xs i).f0) ∧ w.cell? ⟨(ad.add (i.toNat * 2)).block, (ad.add (i.toNat * 2)).off + 1, none⟩ = some (.int .u64 (rd_Pt xs i).f1) := by
  obtain ⟨ad, c, e, _, hK, hc0⟩ := Kd.C_get h zPt i h0 h1
  have hc : ∀ j u, c[j]? = some u → w.cell? (ad.add (i.toNat * 2 + j)) = some u := hc0
  obtain rfl := kPt_open hK
  exact ⟨ad, e, hc 0 _ rfl, by rw [← add_field _ _ 1 (by omega)]; exact hc 1 _ rfl⟩

def rd_L2 (xs : List (List Pt)) (i : Int) : (List Pt) := xs.getD i.toNat ([] : List Pt)
theorem at_L2 {w : World} {A : Option Addr} {n : Nat} {xs : List (List Pt)} (h : Kd.C (Kd.slice 82 kPt) w A n xs) (i : Int) (h0 : 0 ≤ i) (h1 : i < n) : ∃ ad A0 c0, A = some ad ∧ w.cell? (ad.add i.toNat) = some (.slice A0 (rd_L2 xs i).length c0) ∧ (rd_L2 xs i).length ≤ c0 ∧ kPt.C w A0 (rd_L2 xs i).length (rd_L2 xs i) := by
  obtain ⟨ad, c, e, _, hK, hc0⟩ := Kd.C_get h ([] : List Pt) i h0 h1
  have hc : ∀ j u, c[j]? = some u → w.cell? (ad.add (i.toNat * 1 + j)) = some u := hc0
  obtain ⟨A0, c0, rfl, l0, g0⟩ := hK
  exact ⟨ad, A0, c0, e, by have hq := hc 0 _ rfl; rwa [Nat.mul_one, Nat.add_zero] at hq, l0, g0⟩

structure Ge where
  f0 : Int
  f1 : (List Pt)
  f2 : (List (List Pt))
  f3 : (List Ge)
def zGe : Ge := ⟨(0 : Int), ([] : List Pt), ([] : List (List Pt)), ([] : List Ge)⟩
def FGe (d : Kd Ge) : Kd Ge := Kd.iso (Kd.pair (Kd.int .i64) (Kd.pair (Kd.slice 82 kPt) (Kd.pair (Kd.slice 24 (Kd.slice 82 kPt)) (Kd.slice 28 d)))) (fun x : Ge => (x.f0, x.f1, x.f2, x.f3))
theorem monoGe : Kd.Mono FGe := Kd.mono_iso _ (Kd.mono_pair (Kd.mono_const _) (Kd.mono_pair (Kd.mono_const _) (Kd.mono_pair (Kd.mono_const _) (Kd.mono_slice 28 Kd.mono_id))))
theorem subGe : Kd.Sub FGe [24, 28, 82] := Kd.sub_iso _ (Kd.sub_pair (Kd.sub_const _ (by decide)) (Kd.sub_pair (Kd.sub_const _ (by decide)) (Kd.sub_pair (Kd.sub_const _ (by decide)) (Kd.sub_slice 28 (by decide) Kd.sub_id))))
theorem szGe : ∀ n, (Kd.upto FGe 4 [24, 28, 82] n).sz = 4 := Kd.upto_sz (fun _ => rfl)
def kGe : Kd Ge := Kd.fix FGe 4 [24, 28, 82] szGe (Kd.upto_E subGe)
theorem kGe_open {w : World} {x : Ge} {cs : List Value} (h : kGe.K w x cs) : ∃ A1 c1 A2 c2 A3 c3, cs = [.int .i64 x.f0, .slice A1 x.f1.length c1, .slice A2 x.f2.length c2, .slice A3 x.f3.length c3] ∧ x.f1.length ≤ c1 ∧ kPt.C w A1 x.f1.length x.f1 ∧ x.f2.length ≤ c2 ∧ (Kd.slice 82 kPt).C w A2 x.f2.length x.f2 ∧ x.f3.length ≤ c3 ∧ kGe.C w A3 x.f3.length x.f3 := by
  obtain ⟨n, h⟩ := h
  cases n with
  | zero => exact h.elim
  | succ n =>
    obtain ⟨_, _, rfl, rfl, ⟨_, _, rfl, ⟨A1, c1, rfl, l1, g1⟩, ⟨_, _, rfl, ⟨A2, c2, rfl, l2, g2⟩, ⟨A3, c3, rfl, l3, g3⟩⟩⟩⟩ := h
    exact ⟨A1, c1, A2, c2, A3, c3, rfl, l1, g1, l2, g2, l3, Kd.fix_C g3⟩
theorem kGe_mk (w : World) (x : Ge) {A1 : Option Addr} {c1 : Nat} (l1 : x.f1.length ≤ c1) (g1 : kPt.C w A1 x.f1.length x.f1) {A2 : Option Addr} {c2 : Nat} (l2 : x.f2.length ≤ c2) (g2 : (Kd.slice 82 kPt).C w A2 x.f2.length x.f2) {A3 : Option Addr} {c3 : Nat} (l3 : x.f3.length ≤ c3) (g3 : kGe.C w A3 x.f3.length x.f3) : kGe.K w x [.int .i64 x.f0, .slice A1 x.f1.length c1, .slice A2 x.f2.length c2, .slice A3 x.f3.length c3] := by
  obtain ⟨n3, q3⟩ := Kd.fix_C_back monoGe g3
  have r3 := Kd.upto_C_le monoGe szGe (show n3 ≤ n3 by omega) q3
  exact ⟨n3 + 1, ⟨[.int .i64 x.f0], [.slice A1 x.f1.length c1, .slice A2 x.f2.length c2, .slice A3 x.f3.length c3], rfl, rfl, ⟨[.slice A1 x.f1.length c1], [.slice A2 x.f2.length c2, .slice A3 x.f3.length c3], rfl, ⟨A1, c1, rfl, l1, g1⟩, ⟨[.slice A2 x.f2.length c2], [.slice A3 x.f3.length c3], rfl, ⟨A2, c2, rfl, l2, g2⟩, ⟨A3, c3, rfl, l3, r3⟩⟩⟩⟩⟩
def rd_Ge (xs : List Ge) (i : Int) : Ge := xs.getD i.toNat zGe
theorem at_Ge {w : World} {A : Option Addr} {n : Nat} {xs : List Ge} (h : Kd.C kGe w A n xs) (i : Int) (h0 : 0 ≤ i) (h1 : i < n) : ∃ ad A1 c1 A2 c2 A3 c3, A = some ad ∧ w.cell? (ad.add (i.toNat * 4)) = some (.int .i64 (rd_Ge xs i).f0) ∧ w.cell? ⟨(ad.add (i.toNat * 4)).block, (ad.add (i.toNat * 4)).off + 1, none⟩ = some (.slice A1 (rd_Ge xs i).f1.length c1) ∧ w.cell? ⟨(ad.add (i.toNat * 4)).block, (ad.add (i.toNat * 4)).off + 2, none⟩ = some (.slice A2 (rd_Ge xs i).f2.length c2) ∧ w.cell? ⟨(ad.add (i.toNat * 4)).block, (ad.add (i.toNat * 4)).off + 3, none⟩ = some (.slice A3 (rd_Ge xs i).f3.length c3) ∧ (rd_Ge xs i).f1.length ≤ c1 ∧ kPt.C w A1 (rd_Ge xs i).f1.length (rd_Ge xs i).f1 ∧ (rd_Ge xs i).f2.length ≤ c2 ∧ (Kd.slice 82 kPt).C w A2 (rd_Ge xs i).f2.length (rd_Ge xs i).f2 ∧ (rd_Ge xs i).f3.length ≤ c3 ∧ kGe.C w A3 (rd_Ge xs i).f3.length (rd_Ge xs i).f3 := by
  obtain ⟨ad, c, e, _, hK, hc0⟩ := Kd.C_get h zGe i h0 h1
  have hc : ∀ j u, c[j]? = some u → w.cell? (ad.add (i.toNat * 4 + j)) = some u := hc0
  obtain ⟨A1, c1, A2, c2, A3, c3, rfl, l1, g1, l2, g2, l3, g3⟩ := kGe_open hK
  exact ⟨ad, A1, c1, A2, c2, A3, c3, e, hc 0 _ rfl, by rw [← add_field _ _ 1 (by omega)]; exact hc 1 _ rfl, by rw [← add_field _ _ 2 (by omega)]; exact hc 2 _ rfl, by rw [← add_field _ _ 3 (by omega)]; exact hc 3 _ rfl, l1, g1, l2, g2, l3, g3⟩

structure It where
  f0 : Ge
  f1 : Int
  f2 : Int
def zIt : It := ⟨zGe, (0 : Int), (0 : Int)⟩
def kIt : Kd It := Kd.iso (Kd.pair kGe (Kd.pair (Kd.int .i64) (Kd.int .i64))) (fun x : It => (x.f0, x.f1, x.f2))
theorem kIt_open {w : World} {x : It} {cs : List Value} (h : kIt.K w x cs) : ∃ A1 c1 A2 c2 A3 c3, cs = [.int .i64 x.f0.f0, .slice A1 x.f0.f1.length c1, .slice A2 x.f0.f2.length c2, .slice A3 x.f0.f3.length c3, .int .i64 x.f1, .int .i64 x.f2] ∧ x.f0.f1.length ≤ c1 ∧ kPt.C w A1 x.f0.f1.length x.f0.f1 ∧ x.f0.f2.length ≤ c2 ∧ (Kd.slice 82 kPt).C w A2 x.f0.f2.length x.f0.f2 ∧ x.f0.f3.length ≤ c3 ∧ kGe.C w A3 x.f0.f3.length x.f0.f3 := by
  obtain ⟨_, _, rfl, s0, ⟨_, _, rfl, rfl, rfl⟩⟩ := h
  obtain ⟨A1, c1, A2, c2, A3, c3, rfl, l1, g1, l2, g2, l3, g3⟩ := kGe_open s0
  exact ⟨A1, c1, A2, c2, A3, c3, rfl, l1, g1, l2, g2, l3, g3⟩
/-- A tree as a value. -/
def IsG (w : World) (v : Value) (g : Ge) : Prop := ∃ A1 c1 A2 c2 A3 c3, v = .agg #[.int .i64 g.f0, .slice A1 g.f1.length c1, .slice A2 g.f2.length c2, .slice A3 g.f3.length c3] ∧
  g.f1.length ≤ c1 ∧ Kd.C kPt w A1 g.f1.length g.f1 ∧ g.f2.length ≤ c2 ∧ Kd.C (Kd.slice 82 kPt) w A2 g.f2.length g.f2 ∧ g.f3.length ≤ c3 ∧ Kd.C kGe w A3 g.f3.length g.f3
/-- A tree's root at an address. -/
def GAt (w : World) (ad : Addr) (g : Ge) : Prop := ∃ A1 c1 A2 c2 A3 c3, w.cell? ad = some (.int .i64 g.f0) ∧ w.cell? ⟨ad.block, ad.off + 1, none⟩ = some (.slice A1 g.f1.length c1) ∧ w.cell? ⟨ad.block, ad.off + 2, none⟩ = some (.slice A2 g.f2.length c2) ∧ w.cell? ⟨ad.block, ad.off + 3, none⟩ = some (.slice A3 g.f3.length c3) ∧
  g.f1.length ≤ c1 ∧ Kd.C kPt w A1 g.f1.length g.f1 ∧ g.f2.length ≤ c2 ∧ Kd.C (Kd.slice 82 kPt) w A2 g.f2.length g.f2 ∧ g.f3.length ≤ c3 ∧ Kd.C kGe w A3 g.f3.length g.f3
theorem cell_below {w w1 : World} (hb : Below w.heap.size w w1) {a : Addr} {v : Value} (h : w.cell? a = some v) : w1.cell? a = some v := (hb.cell (World.block_lt_of_cell? w a h)).trans h
theorem IsG.below {w w1 : World} {v : Value} {g : Ge} (h : IsG w v g) (hb : Below w.heap.size w w1) : IsG w1 v g := by
  obtain ⟨A1, c1, A2, c2, A3, c3, e, l1, h1, l2, h2, l3, h3⟩ := h
  exact ⟨A1, c1, A2, c2, A3, c3, e, l1, Kd.C_below h1 hb, l2, Kd.C_below h2 hb, l3, Kd.C_below h3 hb⟩
theorem GAt.below {w w1 : World} {ad : Addr} {g : Ge} (h : GAt w ad g) (hb : Below w.heap.size w w1) : GAt w1 ad g := by
  obtain ⟨A1, c1, A2, c2, A3, c3, e0, e1, e2, e3, l1, h1, l2, h2, l3, h3⟩ := h
  exact ⟨A1, c1, A2, c2, A3, c3, cell_below hb e0, cell_below hb e1, cell_below hb e2, cell_below hb e3, l1, Kd.C_below h1 hb, l2, Kd.C_below h2 hb, l3, Kd.C_below h3 hb⟩
/-- A part of a list of trees. -/
theorem GAt.part {w : World} {A : Option Addr} {n : Nat} {xs : List Ge} (h : Kd.C kGe w A n xs) (i : Int) (h0 : 0 ≤ i) (h1 : i < n) : ∃ ad, A = some ad ∧ GAt w (ad.add (i.toNat * 4)) (rd_Ge xs i) := by
  obtain ⟨ad, A1, c1, A2, c2, A3, c3, e, e0, e1, e2, e3, r⟩ := at_Ge h i h0 h1
  exact ⟨ad, e, A1, c1, A2, c2, A3, c3, e0, e1, e2, e3, r⟩
theorem IsG.k {w : World} {v : Value} {g : Ge} (h : IsG w v g) : ∃ cs, v = .agg cs.toArray ∧ kGe.K w g cs := by
  obtain ⟨A1, c1, A2, c2, A3, c3, e, l1, h1, l2, h2, l3, h3⟩ := h
  exact ⟨_, e, kGe_mk w g l1 h1 l2 h2 l3 h3⟩
theorem IsG.of {w : World} {cs : List Value} {g : Ge} (h : kGe.K w g cs) : IsG w (.agg cs.toArray) g := by
  obtain ⟨A1, c1, A2, c2, A3, c3, rfl, r⟩ := kGe_open h
  exact ⟨A1, c1, A2, c2, A3, c3, rfl, r⟩
end Go.Proofs.YtiiolhnpnlmkjaaDoor.Tree
namespace Go.Proofs.YtiiolhnpnlmkjaaDoor.Tree
mutual
/-- What a tree weighs: geometries, lists, points. -/
def Ge.bulk : Ge → Nat
  | ⟨_, l, r, ps⟩ => 1 + l.length + (r.length + r.flatten.length) + bulks ps
def bulks : List Ge → Nat
  | [] => 0
  | p :: ps => p.bulk + bulks ps
end
theorem Ge.bulk_eq (g : Ge) : g.bulk = 1 + g.f1.length + (g.f2.length + g.f2.flatten.length) + bulks g.f3 := by
  cases g; simp only [Ge.bulk]
theorem bulks_mem {p : Ge} {ps : List Ge} (h : p ∈ ps) : p.bulk ≤ bulks ps := by
  induction ps with
  | nil => cases h
  | cons q ps ih =>
    simp only [bulks]
    rcases List.mem_cons.1 h with rfl | h
    · omega
    · have := ih h; omega
theorem bulks_len (ps : List Ge) : ps.length ≤ bulks ps := by
  induction ps with
  | nil => simp [bulks]
  | cons p ps ih =>
    simp only [bulks, List.length_cons]
    have := Ge.bulk_eq p
    omega
/-- Induction over trees. -/
theorem Ge.ind {P : Ge → Prop} (h : ∀ g : Ge, (∀ p ∈ g.f3, P p) → P g) : ∀ g, P g := by
  have : ∀ n (g : Ge), g.bulk ≤ n → P g := by
    intro n
    induction n with
    | zero => intro g hg; have := g.bulk_eq; omega
    | succ n ih =>
      intro g hg
      exact h g (fun p hp => ih p (by have := g.bulk_eq; have := bulks_mem hp; omega))
  exact fun g => this _ g (Nat.le_refl _)
/-- A geometry's own points. -/
def own (g : Ge) : List Pt := g.f1 ++ g.f2.flatten
theorem own_len (g : Ge) : (own g).length + g.f3.length + 1 ≤ g.bulk := by
  have := g.bulk_eq; have := bulks_len g.f3; simp only [own, List.length_append]; omega
mutual
/-- The geometries in the order of the text, with their levels and what they are parts of. -/
def nodes : Ge → Int → Int → List It
  | ⟨k, l, r, ps⟩, lvl, of_ => ⟨⟨k, l, r, ps⟩, lvl, of_⟩ :: nodesL ps (lvl + 1) k
def nodesL : List Ge → Int → Int → List It
  | [], _, _ => []
  | p :: ps, lvl, k => nodes p lvl k ++ nodesL ps lvl k
end
theorem nodes_eq (g : Ge) (lvl of_ : Int) : nodes g lvl of_ = ⟨g, lvl, of_⟩ :: nodesL g.f3 (lvl + 1) g.f0 := by
  cases g; simp only [nodes]
theorem nodesL_flat (ps : List Ge) (lvl k : Int) : nodesL ps lvl k = (ps.map fun p => nodes p lvl k).flatten := by
  induction ps with
  | nil => simp [nodesL]
  | cons p ps ih => simp only [nodesL, List.map_cons, List.flatten_cons, ih]
theorem nodes_all {P : It → Prop} (g : Ge) : ∀ lvl of_ : Int, (∀ (h : Ge) (l o : Int), h.bulk ≤ g.bulk → lvl ≤ l → l + h.bulk ≤ lvl + g.bulk → P ⟨h, l, o⟩) → ∀ y ∈ nodes g lvl of_, P y := by
  induction g using Ge.ind with
  | h g ih =>
    intro lvl of_ hP y hy
    rw [nodes_eq] at hy
    rcases List.mem_cons.1 hy with rfl | hy
    · exact hP g lvl of_ (Nat.le_refl _) (Int.le_refl _) (by omega)
    · rw [nodesL_flat] at hy
      obtain ⟨l, hl, hy⟩ := List.mem_flatten.1 hy
      obtain ⟨p, hp, rfl⟩ := List.mem_map.1 hl
      have hb := bulks_mem hp
      have hq := g.bulk_eq
      exact ih p hp (lvl + 1) g.f0 (fun h l o h1 h2 h3 => hP h l o (by omega) (by omega) (by omega)) y hy
theorem nodes_bulk {g : Ge} {lvl of_ : Int} {y : It} (h : y ∈ nodes g lvl of_) : y.f0.bulk ≤ g.bulk := nodes_all (P := fun y => y.f0.bulk ≤ g.bulk) g lvl of_ (fun _ _ _ h _ _ => h) y h
theorem nodes_len (g : Ge) : ∀ lvl of_ : Int, (nodes g lvl of_).length ≤ g.bulk := by
  induction g using Ge.ind with
  | h g ih =>
    intro lvl of_
    rw [nodes_eq, List.length_cons]
    have hq := g.bulk_eq
    have : ∀ ps : List Ge, (∀ p ∈ ps, p ∈ g.f3) → (nodesL ps (lvl + 1) g.f0).length ≤ bulks ps := by
      intro ps
      induction ps with
      | nil => intro _; simp [nodesL, bulks]
      | cons p ps ihp =>
        intro h
        simp only [nodesL, bulks, List.length_append]
        have h1 := ih p (h p List.mem_cons_self) (lvl + 1) g.f0
        have h2 := ihp (fun q hq => h q (List.mem_cons_of_mem _ hq))
        omega
    have := this g.f3 (fun _ h => h)
    omega
/-- All points of geometries together. -/
def ptsOf (l : List It) : Nat := l.foldl (fun n x => n + (own x.f0).length) 0
theorem ptsOf_snoc (l : List It) (x : It) : ptsOf (l ++ [x]) = ptsOf l + (own x.f0).length := by unfold ptsOf; rw [List.foldl_append]; rfl
theorem ptsOf_le (l : List It) (b : Nat) (h : ∀ y ∈ l, (own y.f0).length ≤ b) : ptsOf l ≤ l.length * b := by
  have : ∀ (l : List It) (m : Nat), (∀ y ∈ l, (own y.f0).length ≤ b) → l.foldl (fun n x => n + (own x.f0).length) m ≤ m + l.length * b := by
    intro l
    induction l with
    | nil => intro m _; simp
    | cons x l ih =>
      intro m h
      rw [List.foldl_cons, List.length_cons, Nat.add_mul]
      have h1 := ih (m + (own x.f0).length) (fun y hy => h y (List.mem_cons_of_mem _ hy))
      have h2 := h x List.mem_cons_self
      omega
  have := this l 0 h
  rw [Nat.zero_add] at this
  exact this
end Go.Proofs.YtiiolhnpnlmkjaaDoor.Tree
namespace Go.Proofs.YtiiolhnpnlmkjaaDoor.Tree
open Go.RowKit Go.Proofs.YtiiolhnpnlmkjaaDoorW.PrintWords Go.Proofs.YtiiolhnpnlmkjaaDoorW.PrintLast Go.Proofs.YtiiolhnpnlmkjaaDoorW.PrintMore
structure GoodK (d : Kd Ge) : Prop where
  sz : d.sz = 4
  K : ∀ w x cs, d.K w x cs → kGe.K w x cs
  E : ∀ q, q ∈ d.E → q ∈ [82, 24, 28]
def apartM (d : Kd Ge) (w : World) (base : Nat) (ok : Nat → Prop) (g : Ge) (cs : List Value) : Prop :=
  ∃ v1 v2 v3 ok1 ok2 ok3, cs = [.int .i64 g.f0, v1, v2, v3] ∧ (∀ k, ok1 k → ok k) ∧ (∀ k, ok2 k → ok k) ∧ (∀ k, ok3 k → ok k) ∧ (∀ k, ok1 k → ¬ ok2 k) ∧ (∀ k, ok1 k → ¬ ok3 k) ∧ (∀ k, ok2 k → ¬ ok3 k) ∧
    kPt.R 82 w base ok1 v1 g.f1 ∧ Kd.S (Kd.slice 82 kPt) 24 w base ok2 v2 g.f2 ∧ Kd.S d 28 w base ok3 v3 g.f3
def FS (d : Kd Ge) (hd : GoodK d) : Kd Ge where
  sz := 4
  E := [82, 24, 28]
  K := kGe.K
  M := apartM d
  K_len := fun h => kGe.K_len h
  K_one := fun h => kGe.K_one h
  K_below := fun hb h => kGe.K_below hb h
  K_of_M := by
    rintro w base ok g cs ⟨v1, v2, v3, ok1, ok2, ok3, rfl, _, _, _, _, _, _, h1, h2, h3⟩
    obtain ⟨A1, c1, rfl, l1, r1⟩ := Kd.R_reads h1
    obtain ⟨A2, c2, rfl, l2, r2⟩ := Kd.S_reads h2
    obtain ⟨A3, c3, rfl, l3, r3⟩ := Kd.S_reads h3
    exact kGe_mk w g l1 r1 l2 r2 l3 (Kd.C_imp (d' := kGe) hd.sz hd.K r3)
  M_mono := by
    rintro w base ok ok' g cs hok ⟨v1, v2, v3, ok1, ok2, ok3, rfl, a1, a2, a3, r⟩
    exact ⟨v1, v2, v3, ok1, ok2, ok3, rfl, fun k h => hok k (a1 k h), fun k h => hok k (a2 k h), fun k h => hok k (a3 k h), r⟩
  M_bound := by
    rintro w base ok g cs ⟨v1, v2, v3, ok1, ok2, ok3, rfl, a1, a2, a3, b1, b2, b3, h1, h2, h3⟩
    refine ⟨v1, v2, v3, _, _, _, rfl, ?_, ?_, ?_, ?_, ?_, ?_, Kd.R_bound h1, Kd.S_bound h2, Kd.S_bound h3⟩
    · rintro k ⟨p, q, r, t, ht, hc⟩
      refine ⟨a1 k p, q, r, t, ?_, hc⟩
      rcases List.mem_cons.1 ht with rfl | ht
      · simp
      · cases ht
    · rintro k ⟨p, q, r, t, ht, hc⟩
      refine ⟨a2 k p, q, r, t, ?_, hc⟩
      rcases List.mem_cons.1 ht with rfl | ht
      · simp
      · rcases List.mem_cons.1 ht with rfl | ht
        · simp
        · cases ht
    · rintro k ⟨p, q, r, t, ht, hc⟩
      refine ⟨a3 k p, q, r, t, ?_, hc⟩
      rcases List.mem_cons.1 ht with rfl | ht
      · simp
      · exact hd.E t ht
    · exact fun k h h' => b1 k h.1 h'.1
    · exact fun k h h' => b2 k h.1 h'.1
    · exact fun k h h' => b3 k h.1 h'.1
  M_move := by
    rintro w w1 base ok g cs hm ⟨v1, v2, v3, ok1, ok2, ok3, rfl, a1, a2, a3, b1, b2, b3, h1, h2, h3⟩
    exact ⟨v1, v2, v3, ok1, ok2, ok3, rfl, a1, a2, a3, b1, b2, b3, Kd.R_move h1 (fun k h => hm k (a1 k h)), Kd.S_move h2 (fun k h => hm k (a2 k h)), Kd.S_move h3 (fun k h => hm k (a3 k h))⟩
  M_lower := by
    rintro w base base' ok g cs hb ⟨v1, v2, v3, ok1, ok2, ok3, rfl, a1, a2, a3, b1, b2, b3, h1, h2, h3⟩
    exact ⟨v1, v2, v3, ok1, ok2, ok3, rfl, a1, a2, a3, b1, b2, b3, Kd.R_lower h1 hb, Kd.S_lower h2 hb, Kd.S_lower h3 hb⟩
def noneK : Kd Ge where
  sz := 4
  E := []
  K := kGe.K
  M := fun _ _ _ _ _ => False
  K_len := fun h => kGe.K_len h
  K_one := fun h => kGe.K_one h
  K_below := fun hb h => kGe.K_below hb h
  K_of_M := fun h => h.elim
  M_mono := fun _ h => h
  M_bound := fun h => h
  M_move := fun _ h => h
  M_lower := fun _ h => h
/-- Trees of so many levels at most. -/
def kSpP : Nat → {d : Kd Ge // GoodK d}
  | 0 => ⟨noneK, rfl, fun _ _ _ h => h, fun _ h => by cases h⟩
  | n + 1 => ⟨FS (kSpP n).1 (kSpP n).2, rfl, fun _ _ _ h => h, fun _ h => h⟩
def kSp (n : Nat) : Kd Ge := (kSpP n).1
theorem kSp_sz (n : Nat) : (kSp n).sz = 4 := (kSpP n).2.sz
theorem kSp_K (n : Nat) {w : World} {g : Ge} {cs : List Value} (h : (kSp n).K w g cs) : kGe.K w g cs := (kSpP n).2.K _ _ _ h
theorem kSp_M (n : Nat) (w : World) (base : Nat) (ok : Nat → Prop) (g : Ge) (cs : List Value) : (kSp (n + 1)).M w base ok g cs = apartM (kSp n) w base ok g cs := rfl
theorem rd_Ge_at (l : List Ge) (k : Nat) (h : k < l.length) : rd_Ge l (k : Int) = l[k] := by simp [rd_Ge, List.getD_eq_getElem?_getD, h]
theorem GAt.box {W : World} {v : Value} {g : Ge} (h : IsG W v g) {cs : Array Value} {b : Nat} (hb : W.heap[b]? = some (.cells cs 28 (0, 0))) (e : v = .agg cs) : GAt W ⟨b, 0, none⟩ g := by
  obtain ⟨A1, c1, A2, c2, A3, c3, rfl, r⟩ := h
  injection e with e
  subst e
  exact ⟨A1, c1, A2, c2, A3, c3, (blk_cell hb 0).trans rfl, (blk_cell hb 1).trans rfl, (blk_cell hb 2).trans rfl, (blk_cell hb 3).trans rfl, r⟩
theorem ret_i {k : IntKind} {a b : Int} (h : a = b) : Ending.returned (.int k a) = Ending.returned (.int k b) := by rw [h]
theorem ret_b {a b : Bool} (h : a = b) : Ending.returned (.bool a) = Ending.returned (.bool b) := by rw [h]
/-- How many elements the first k lists have together. -/
def upTo {α : Type} (l : List (List α)) (k : Nat) : Nat := (l.take k).flatten.length
theorem upTo_succ {α : Type} (l : List (List α)) (k : Nat) (h : k < l.length) : upTo l (k + 1) = upTo l k + l[k].length := by
  unfold upTo
  rw [List.take_succ_eq_append_getElem h, List.flatten_append, List.length_append]; simp
theorem upTo_all {α : Type} (l : List (List α)) : upTo l l.length = l.flatten.length := by unfold upTo; rw [List.take_length]
theorem upTo_zero {α : Type} (l : List (List α)) : upTo l 0 = 0 := by simp [upTo]
theorem upTo_le {α : Type} (l : List (List α)) (k : Nat) : upTo l k ≤ l.flatten.length := by
  have e : l.flatten.length = ((l.take k).flatten ++ (l.drop k).flatten).length := by rw [← List.flatten_append, List.take_append_drop]
  rw [e, List.length_append]; unfold upTo; omega
theorem rd_L2_at (l : List (List Pt)) (k : Nat) (h : k < l.length) : rd_L2 l (k : Int) = l[k] := by simp [rd_L2, List.getD_eq_getElem?_getD, h]
set_option maxHeartbeats 1000000 in
theorem own_calls (g : Ge) (ad : Addr) (w : World) (h : GAt w ad g) (hs : g.bulk ≤ 1073741824) :
    Calls Tryd.prog 70 #[.pointer (some ad)] w fun e w' => e = .returned (.int .i64 (own g).length) ∧ w' = w := by
  obtain ⟨A1, c1, A2, c2, A3, c3, e0, e1, e2, e3, l1, h1, l2, h2, l3, h3⟩ := h
  have H2 := Aside0.mk h2
  clear h1 h2 h3 e0 e3
  go_enter Tryd.func70, Tryd.ntmps70
  go_wp2_with fail
  have B2 := g.bulk_eq
  have U := upTo_le g.f2
  have UH := Aside0.mk U
  clear U
  go_loop [3, 16] (fun n i => ∃ k : Nat, k ≤ g.f2.length ∧ i = .int .i64 (k : Int) ∧ n = .int .i64 ((g.f1.length + upTo g.f2 k : Nat) : Int)) (fun _ i => g.f2.length - (intOf i).toNat)
  case atStart => exact ⟨0, Nat.zero_le _, rfl, by rw [upTo_zero]; rfl⟩
  case round =>
    obtain ⟨k, hk, rfl, rfl⟩ := hrel
    by_cases hlt : k < g.f2.length
    · obtain ⟨a2, A0, c0, rfl, hx, hl, hc⟩ := at_L2 H2.out k (by omega) (by omega)
      have HE := Aside0.mk (upTo_succ g.f2 k hlt)
      rw [rd_L2_at _ _ hlt, Int.toNat_natCast] at hx
      have hf := UH.out (k + 1)
      have hf2 : upTo g.f2 k + (g.f2[k]).length ≤ g.f2.flatten.length := by rw [← HE.out]; exact hf
      clear hc hl hf
      go_wp2_with fail
      go_round
      case rel => exact ⟨k + 1, by omega, by go_num, by rw [HE.out]; go_num⟩
      case measure => simp [intOf]; omega
    · have hk2 : k = g.f2.length := by omega
      subst hk2
      go_wp2_with fail
      go_ret
      exact ⟨ret_i (by rw [own, List.length_append, upTo_all]; omega), rfl⟩
def fitsB (k o : Int) : Bool := if o = 4 ∨ o = 5 ∨ o = 6 then decide (k = o - 3) else true
set_option maxHeartbeats 1000000 in
theorem fits_calls (k o : Int) (w : World) : Calls Tryd.prog 98 #[.int .i64 k, .int .i64 o] w fun e w' => e = .returned (.bool (fitsB k o)) ∧ w' = w := by
  unfold fitsB
  by_cases h4 : o = 4
  · subst h4
    go_enter Tryd.func98, Tryd.ntmps98
    go_wp2_with fail
    go_ret
    exact ⟨rfl, rfl⟩
  · by_cases h5 : o = 5
    · subst h5
      go_enter Tryd.func98, Tryd.ntmps98
      go_wp2_with fail
      go_ret
      exact ⟨rfl, rfl⟩
    · by_cases h6 : o = 6
      · subst h6
        go_enter Tryd.func98, Tryd.ntmps98
        go_wp2_with fail
        go_ret
        exact ⟨rfl, rfl⟩
      · have q4 : (o == 4) = false := beq_eq_false_iff_ne.mpr h4
        have q5 : (o == 5) = false := beq_eq_false_iff_ne.mpr h5
        have q6 : (o == 6) = false := beq_eq_false_iff_ne.mpr h6
        go_enter Tryd.func98, Tryd.ntmps98
        go_wp2_with fail
        go_ret
        exact ⟨rfl, rfl⟩
/-- The lists that a geometry of its kind may have. -/
def listsB (g : Ge) : Bool :=
  if g.f0 = 1 then decide (g.f1.length ≤ 1) && decide (g.f2.length = 0) && decide (g.f3.length = 0)
  else if g.f0 = 2 then decide (g.f2.length = 0) && decide (g.f3.length = 0)
  else if g.f0 = 3 then (g.f2.all fun r => !r.isEmpty) && (decide (g.f1.length = 0) && decide (g.f3.length = 0))
  else if g.f0 = 4 ∨ g.f0 = 5 ∨ g.f0 = 6 ∨ g.f0 = 7 then decide (g.f1.length = 0) && decide (g.f2.length = 0)
  else false
set_option maxHeartbeats 4000000 in
theorem lists_calls (g : Ge) (ad : Addr) (w : World) (h : GAt w ad g) (hs : g.bulk ≤ 1073741824) :
    Calls Tryd.prog 97 #[.pointer (some ad)] w fun e w' => e = .returned (.bool (listsB g)) ∧ w' = w := by
  obtain ⟨A1, c1, A2, c2, A3, c3, e0, e1, e2, e3, l1, h1, l2, h2, l3, h3⟩ := h
  have H2 := Aside0.mk h2
  clear h1 h2 h3
  obtain ⟨b, hb⟩ : ∃ b, b = listsB g := ⟨_, rfl⟩
  rw [← hb]
  have HB := Aside0.mk hb
  clear hb
  have bl := g.bulk_eq
  have bp := bulks_len g.f3
  have b1 : g.f1.length ≤ 1073741824 := by omega
  have b2 : g.f2.length ≤ 1073741824 := by omega
  have b3 : g.f3.length ≤ 1073741824 := by omega
  clear bl bp hs
  obtain ⟨k, l, r, ps⟩ := g
  dsimp only at *
  by_cases k1 : k = 1
  · subst k1
    go_enter Tryd.func97, Tryd.ntmps97
    go_wp2_with fail
    all_goals go_ret
    all_goals refine ⟨ret_b ?_, rfl⟩
    all_goals (rw [HB.out, Bool.eq_iff_iff]; clear HB e0 e1 e2 e3; simp_all [listsB] <;> (intros; omega))
  have q1 : (k == 1) = false := beq_eq_false_iff_ne.mpr k1
  by_cases k2 : k = 2
  · subst k2
    go_enter Tryd.func97, Tryd.ntmps97
    go_wp2_with fail
    all_goals go_ret
    all_goals refine ⟨ret_b ?_, rfl⟩
    all_goals (rw [HB.out, Bool.eq_iff_iff]; clear HB e0 e1 e2 e3; simp_all [listsB] <;> (intros; omega))
  have q2 : (k == 2) = false := beq_eq_false_iff_ne.mpr k2
  by_cases k3 : k = 3
  · subst k3
    have b2' : r.length < 9223372036854775807 := by omega
    go_enter Tryd.func97, Tryd.ntmps97
    go_wp2_with fail
    go_loop [56] (fun i => ∃ j : Nat, j ≤ r.length ∧ i = .int .i64 (j : Int) ∧ Aside0 (((r.take j).all fun x => !x.isEmpty) = true)) (fun i => r.length - (intOf i).toNat)
    case atStart => exact ⟨0, Nat.zero_le _, rfl, ⟨rfl⟩⟩
    case round =>
      obtain ⟨j, hj, rfl, HF⟩ := hrel
      by_cases hlt : j < r.length
      · obtain ⟨a2, A0, c0, rfl, hx, hl, hc⟩ := at_L2 H2.out j (by omega) (by omega)
        rw [rd_L2_at _ _ hlt, Int.toNat_natCast] at hx
        clear hc hl
        by_cases hz : r[j].length = 0
        · rw [hz] at hx
          go_wp2_with fail
          go_ret
          refine ⟨ret_b ?_, rfl⟩
          rw [HB.out]
          have : (r.all fun x => !x.isEmpty) = false := by
            rw [List.all_eq_false]
            exact ⟨r[j], List.getElem_mem hlt, by simp [List.eq_nil_of_length_eq_zero hz]⟩
          simp [listsB, this]
        · have hz' : ¬ (((r[j].length : Nat) : Int) = 0) := by omega
          have HE := Aside0.mk (show ((r.take (j + 1)).all fun x => !x.isEmpty) = true by
            rw [List.take_succ_eq_append_getElem hlt, List.all_append, HF.out]
            simp; intro hq; rw [hq] at hz; exact hz rfl)
          go_wp2_with fail
          go_round
          case rel => exact ⟨j + 1, by omega, by go_num, HE⟩
          case measure => simp [intOf]; omega
      · obtain rfl : j = r.length := by omega
        have hF := HF.out
        rw [List.take_length] at hF
        have HF2 := Aside0.mk hF
        clear hF
        go_wp2_with fail
        all_goals go_ret
        all_goals refine ⟨ret_b ?_, rfl⟩
        all_goals (rw [HB.out, Bool.eq_iff_iff]; have hF := HF2.out; clear HB HF HF2 e0 e1 e2 e3 H2; simp only [listsB, hF]; simp_all <;> (intros; omega))
  have q3 : (k == 3) = false := beq_eq_false_iff_ne.mpr k3
  by_cases k4 : k = 4
  · subst k4
    go_enter Tryd.func97, Tryd.ntmps97
    go_wp2_with fail
    all_goals go_ret
    all_goals refine ⟨ret_b ?_, rfl⟩
    all_goals (rw [HB.out, Bool.eq_iff_iff]; clear HB e0 e1 e2 e3; simp_all [listsB] <;> (intros; omega))
  have q4 : (k == 4) = false := beq_eq_false_iff_ne.mpr k4
  by_cases k5 : k = 5
  · subst k5
    go_enter Tryd.func97, Tryd.ntmps97
    go_wp2_with fail
    all_goals go_ret
    all_goals refine ⟨ret_b ?_, rfl⟩
    all_goals (rw [HB.out, Bool.eq_iff_iff]; clear HB e0 e1 e2 e3; simp_all [listsB] <;> (intros; omega))
  have q5 : (k == 5) = false := beq_eq_false_iff_ne.mpr k5
  by_cases k6 : k = 6
  · subst k6
    go_enter Tryd.func97, Tryd.ntmps97
    go_wp2_with fail
    all_goals go_ret
    all_goals refine ⟨ret_b ?_, rfl⟩
    all_goals (rw [HB.out, Bool.eq_iff_iff]; clear HB e0 e1 e2 e3; simp_all [listsB] <;> (intros; omega))
  have q6 : (k == 6) = false := beq_eq_false_iff_ne.mpr k6
  by_cases k7 : k = 7
  · subst k7
    go_enter Tryd.func97, Tryd.ntmps97
    go_wp2_with fail
    all_goals go_ret
    all_goals refine ⟨ret_b ?_, rfl⟩
    all_goals (rw [HB.out, Bool.eq_iff_iff]; clear HB e0 e1 e2 e3; simp_all [listsB] <;> (intros; omega))
  have q7 : (k == 7) = false := beq_eq_false_iff_ne.mpr k7
  go_enter Tryd.func97, Tryd.ntmps97
  go_wp2_with fail
  all_goals go_ret
  all_goals refine ⟨ret_b ?_, rfl⟩
  all_goals (rw [HB.out, Bool.eq_iff_iff]; clear HB e0 e1 e2 e3; simp_all [listsB] <;> (intros; omega))
def expo (x : Int) : Int := wrap64 (Go.bits .and .u64 (x / 4503599627370496) 2047)
def frac (x : Int) : Int := Go.bits .and .u64 x 4503599627370495
def classOf (x : Int) : Int := if expo x = 0 then (if frac x = 0 then 0 else 1) else if expo x < 2047 then 2 else if frac x = 0 then 3 else 4
set_option maxHeartbeats 1000000 in
theorem fields_calls (x : Int) (w : World) : Calls Tryd.prog 111 #[.int .u64 x] w fun e w' => e = .returned (.tuple #[.int .i64 (expo x), .int .u64 (frac x)]) ∧ w' = w := by
  go_enter Tryd.func111, Tryd.ntmps111
  go_wp2_with fail
  go_ret2
  exact ⟨rfl, rfl⟩
set_option maxHeartbeats 1000000 in
theorem class_calls (x : Int) (w : World) : Calls Tryd.prog 109 #[.int .u64 x] w fun e w' => e = .returned (.int .i64 (classOf x)) ∧ w' = w := by
  unfold classOf
  obtain ⟨a, ha⟩ : ∃ a, a = expo x := ⟨_, rfl⟩
  obtain ⟨b, hb⟩ : ∃ b, b = frac x := ⟨_, rfl⟩
  have hc := fields_calls x w
  rw [← ha, ← hb] at hc ⊢
  have HC := Aside0.mk hc
  clear hc ha hb
  by_cases h0 : a = 0
  · subst h0
    by_cases h1 : b = 0
    · subst h1
      go_enter Tryd.func109, Tryd.ntmps109
      go_wp2_with fail
      refine HC.out.mono ?_
      rintro e w' ⟨rfl, rfl⟩
      go_wp2_with fail
      go_ret
      exact ⟨rfl, rfl⟩
    · have q1 : (b == 0) = false := beq_eq_false_iff_ne.mpr h1
      go_enter Tryd.func109, Tryd.ntmps109
      go_wp2_with fail
      refine HC.out.mono ?_
      rintro e w' ⟨rfl, rfl⟩
      go_wp2_with fail
      go_ret
      exact ⟨rfl, rfl⟩
  · have q0 : (a == 0) = false := beq_eq_false_iff_ne.mpr h0
    by_cases h2 : a < 2047
    · go_enter Tryd.func109, Tryd.ntmps109
      go_wp2_with fail
      refine HC.out.mono ?_
      rintro e w' ⟨rfl, rfl⟩
      go_wp2_with fail
      go_ret
      exact ⟨rfl, rfl⟩
    · by_cases h1 : b = 0
      · subst h1
        go_enter Tryd.func109, Tryd.ntmps109
        go_wp2_with fail
        refine HC.out.mono ?_
        rintro e w' ⟨rfl, rfl⟩
        go_wp2_with fail
        go_ret
        exact ⟨rfl, rfl⟩
      · have q1 : (b == 0) = false := beq_eq_false_iff_ne.mpr h1
        go_enter Tryd.func109, Tryd.ntmps109
        go_wp2_with fail
        refine HC.out.mono ?_
        rintro e w' ⟨rfl, rfl⟩
        go_wp2_with fail
        go_ret
        exact ⟨rfl, rfl⟩
/-- Is a pattern a number's? -/
def finC (C : Int → Int) (x : Int) : Bool := decide (C x ≤ 2)
def finLC (C : Int → Int) (l : List Pt) : Bool := l.all fun p => finC C p.f0 && finC C p.f1
theorem rd_Pt_at (l : List Pt) (k : Nat) (h : k < l.length) : rd_Pt l (k : Int) = l[k] := by simp [rd_Pt, List.getD_eq_getElem?_getD, h]
theorem finLC_take (C : Int → Int) (l : List Pt) (k : Nat) (h : k < l.length) : finLC C (l.take (k + 1)) = (finLC C (l.take k) && (finC C l[k].f0 && finC C l[k].f1)) := by
  unfold finLC
  rw [List.take_succ_eq_append_getElem h, List.all_append]; simp
theorem finLC_bad {C : Int → Int} {l : List Pt} (k : Nat) (h : k < l.length) (hb : (finC C l[k].f0 && finC C l[k].f1) = false) : finLC C l = false := by
  unfold finLC
  rw [List.all_eq_false]
  exact ⟨l[k], List.getElem_mem h, by simpa using hb⟩
set_option maxRecDepth 100000 in
set_option maxHeartbeats 4000000 in
theorem finite_aux (C : Int → Int) (HCl : Aside0 (∀ x (w : World), Calls Tryd.prog 109 #[.int .u64 x] w fun e w' => e = .returned (.int .i64 (C x)) ∧ w' = w)) (A : Option Addr) (c : Nat) (l : List Pt) (w : World) (hC : Kd.C kPt w A l.length l) (hl : l.length ≤ 1073741824) :
    Calls Tryd.prog 99 #[.slice A l.length c] w fun e w' => e = .returned (.bool (finLC C l)) ∧ Below w.heap.size w w' := by
  have HC := Aside0.mk hC
  clear hC
  go_enter Tryd.func99, Tryd.ntmps99
  go_wp2_with fail
  go_loopg [7] l.length (fun kq i wr => ∃ k : Nat, k + kq = l.length ∧ i = .int .i64 (k : Int) ∧ Aside0 (finLC C (l.take k) = true) ∧ Aside0 (Below w.heap.size w wr))
  case atStart => exact ⟨0, by omega, rfl, ⟨rfl⟩, ⟨Below.refl _ _⟩⟩
  case round =>
    obtain ⟨k, hk, rfl, HF, HB⟩ := hrel
    cases gk with
    | zero =>
      have hlt : ¬ ((k : Int) < (l.length : Int)) := by omega
      obtain rfl : k = l.length := by omega
      go_wp2_with fail
      go_ret
      exact ⟨ret_b (by have := HF.out; rw [List.take_length] at this; exact this.symm), HB.out⟩
    | succ kq =>
      have hlt : k < l.length := by omega
      obtain ⟨ad, ea, hx0, hx1⟩ := at_Pt HC.out (k : Int) (by omega) (by omega)
      subst ea
      rw [rd_Pt_at _ _ hlt, Int.toNat_natCast] at hx0 hx1
      have p0 := cell_below HB.out hx0
      have p1 := cell_below HB.out hx1
      have HE := Aside0.mk (finLC_take C l k hlt)
      clear hx0 hx1
      by_cases b0 : C l[k].f0 ≤ 2
      · have c0 : ¬ (2 < C l[k].f0) := by omega
        by_cases b1 : C l[k].f1 ≤ 2
        · have c1 : ¬ (2 < C l[k].f1) := by omega
          go_wp2_with fail
          refine (HCl.out _ _).mono ?_
          rintro e w' ⟨rfl, rfl⟩
          go_wp2_with fail
          refine (HCl.out _ _).mono ?_
          rintro e w' ⟨rfl, rfl⟩
          go_wp2_with fail
          go_roundg kq
          case measure => omega
          case rel => exact ⟨k + 1, by omega, by go_num, ⟨by rw [HE.out, HF.out]; simp [finC, b0, b1]⟩, ⟨below_alloc HB.out _⟩⟩
        · have c1 : 2 < C l[k].f1 := by omega
          go_wp2_with fail
          refine (HCl.out _ _).mono ?_
          rintro e w' ⟨rfl, rfl⟩
          go_wp2_with fail
          refine (HCl.out _ _).mono ?_
          rintro e w' ⟨rfl, rfl⟩
          go_wp2_with fail
          go_ret
          refine ⟨ret_b (finLC_bad k hlt ?_).symm, below_alloc HB.out _⟩
          simp [finC, b1]
      · have c0 : 2 < C l[k].f0 := by omega
        go_wp2_with fail
        refine (HCl.out _ _).mono ?_
        rintro e w' ⟨rfl, rfl⟩
        go_wp2_with fail
        go_ret
        refine ⟨ret_b (finLC_bad k hlt ?_).symm, below_alloc HB.out _⟩
        have q0 : finC C l[k].f0 = false := by simp [finC, c0]
        rw [q0]; rfl
def finL (l : List Pt) : Bool := finLC classOf l
theorem finite_calls (A : Option Addr) (c : Nat) (l : List Pt) (w : World) (hC : Kd.C kPt w A l.length l) (hl : l.length ≤ 1073741824) :
    Calls Tryd.prog 99 #[.slice A l.length c] w fun e w' => e = .returned (.bool (finL l)) ∧ Below w.heap.size w w' := finite_aux classOf ⟨class_calls⟩ A c l w hC hl
end Go.Proofs.YtiiolhnpnlmkjaaDoor.Tree
