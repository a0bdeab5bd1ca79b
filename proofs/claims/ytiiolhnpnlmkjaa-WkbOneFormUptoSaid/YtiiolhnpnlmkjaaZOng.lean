/- Texts of this claim laid one behind the other (TRCheck; TPrSem; TPP; PMk): what each proves stands at its own names; the last one is the claim's. No conditions but those told. -/
import Derived.Test.YtiiolhnpnlmkjaaZOnf
import Derived.Test.YtiiolhnpnlmkjaaProg
import Derived.Below
import Derived.Deep.Draws
import Derived.Deep.AppendLies
import Derived.Maps.AppendAt
import Derived.OwnWalk
import Derived.Laws.BytesArg
import Derived.Laws.MakeOwn
import Derived.Laws.OwnMore
import Derived.Deep.OwnRows
import Derived.Tactics
import Derived.Lib.ConvBytes
import Derived.Laws.Slices
import Derived.WalkKit
import Derived.KernelRfl
import Derived.RowKit3
import Derived.Deep.LoopGhost
import Derived.Deep.QuietTactic
import Derived.BigQuiet
import Derived.WideLaws
import Derived.Deep.DeepCutAuto
import Derived.Deep.CutBlock
import Derived.Deep.RegionHeld3
import Derived.Laws.Rows
import Derived.Lib.AppendStr
import Derived.ArgAppend
import Derived.Laws.IdiomCopy
import Derived.OrdersHeld
import Derived.Laws.BitsLemmas
import Derived.RowKit
import Derived.Test.YtiiolhnpnlmkjaaMathCopy
import Derived.Test.YtiiolhnpnlmkjaaMathMake
import Derived.IntWalk
import Derived.Laws.BitsAllLaws
import Derived.RegionTactic
import Derived.Test.YtiiolhnpnlmkjaaWWords
import Derived.Test.YtiiolhnpnlmkjaaWLast
import Derived.Test.YtiiolhnpnlmkjaaWTab
import Derived.Test.YtiiolhnpnlmkjaaWFour
import Derived.Test.YtiiolhnpnlmkjaaWQPut
import Derived.Test.YtiiolhnpnlmkjaaWApart
import Derived.Test.YtiiolhnpnlmkjaaWArr
import Derived.Test.YtiiolhnpnlmkjaaWZeros
import Derived.Test.YtiiolhnpnlmkjaaWFoot
import Derived.Test.YtiiolhnpnlmkjaaWKept
import Derived.Test.YtiiolhnpnlmkjaaWShare
import Derived.Test.YtiiolhnpnlmkjaaWN
import Derived.Test.YtiiolhnpnlmkjaaWFootNe
import Derived.Test.YtiiolhnpnlmkjaaWAt
import Derived.Test.YtiiolhnpnlmkjaaWEqStruct
import Derived.Test.YtiiolhnpnlmkjaaWRepsOne
import Derived.Test.YtiiolhnpnlmkjaaWInv
import Derived.Test.YtiiolhnpnlmkjaaWInvWords
import Derived.Test.YtiiolhnpnlmkjaaWGuard
import Derived.Test.YtiiolhnpnlmkjaaWNEv
import Derived.Test.YtiiolhnpnlmkjaaWMore
namespace Go.Proofs.Ytiiolhnpnlmkjaa.Tree
open Go.RowKit Go.Proofs.YtiiolhnpnlmkjaaW.PrintWords Go.Proofs.YtiiolhnpnlmkjaaW.PrintLast Go.Proofs.YtiiolhnpnlmkjaaW.PrintMore
theorem wrong_many (x : It) (n : Int) (h : 65536 < n) : wrongC x n ≠ 0 := by
  unfold wrongC
  split
  · decide
  · simp [h]
    split <;> decide
theorem scan_take : ∀ (m : Nat) (l : List It) (k n : Nat), 1 ≤ m → 65536 < n + m → scanC k n (l.take m) = scanC k n l := by
  intro m
  induction m with
  | zero => intro l k n h; omega
  | succ m ih =>
    intro l k n _ hn
    cases l with
    | nil => rfl
    | cons x l =>
      rw [List.take_succ_cons, scanC_cons, scanC_cons]
      split
      · rename_i h0
        by_cases hm : m = 0
        · exact absurd h0 (wrong_many x _ (by omega))
        · exact ih l _ _ (by omega) (by omega)
      · rfl
theorem checkR_seen (g : Ge) : scanC 0 0 (seen g) = checkR g := by
  unfold seen checkR
  exact scan_take 65538 _ 0 0 (by omega) (by omega)
theorem finL_append (a b : List Pt) : finL (a ++ b) = (finL a && finL b) := by unfold finL finLC; rw [List.all_append]
theorem finL_flat (l : List (List Pt)) : finL l.flatten = l.all finL := by
  induction l with
  | nil => rfl
  | cons a l ih => rw [List.flatten_cons, finL_append, ih, List.all_cons]
theorem finL_own (g : Ge) : finL (own g) = (finL g.f1 && g.f2.all finL) := by unfold own; rw [finL_append, finL_flat]
theorem wrong_eq (x : It) (n : Int) : wrongC x n = if 256 < x.f1 then 151 else if shapedB x = true then (if 65536 < n then 152 else if finL (own x.f0) = true then 0 else 155) else 150 := by
  unfold wrongC
  rw [shaped_eq, finL_own]
/-- The items from k on, so many geometries and points ahead of them. -/
def upAll (g : Ge) (k : Nat) : Nat := k + ptsOf ((seen g).take k)
def Fine (g : Ge) (k : Nat) : Prop := scanC 0 0 (seen g) = scanC k (upAll g k) ((seen g).drop k)
theorem upAll_succ (g : Ge) (k : Nat) (h : k < (seen g).length) : upAll g (k + 1) = upAll g k + 1 + (own (seen g)[k].f0).length := by
  unfold upAll
  rw [List.take_succ_eq_append_getElem h, ptsOf_snoc]
  omega
theorem Fine.bad {g : Ge} {k : Nat} (hf : Fine g k) (h : k < (seen g).length) (hw : wrongC (seen g)[k] ((upAll g (k + 1) : Nat) : Int) ≠ 0) : checkR g = some ((k : Int), wrongC (seen g)[k] ((upAll g (k + 1) : Nat) : Int)) := by
  rw [← checkR_seen, hf, List.drop_eq_getElem_cons h, scanC_cons, ← upAll_succ g k h, if_neg hw]
theorem Fine.next {g : Ge} {k : Nat} (hf : Fine g k) (h : k < (seen g).length) (hw : wrongC (seen g)[k] ((upAll g (k + 1) : Nat) : Int) = 0) : Fine g (k + 1) := by
  unfold Fine
  rw [hf, List.drop_eq_getElem_cons h, scanC_cons, ← upAll_succ g k h, if_pos hw]
end Go.Proofs.Ytiiolhnpnlmkjaa.Tree
namespace Go.Proofs.Ytiiolhnpnlmkjaa.Tree
open Go.RowKit Go.Proofs.Ytiiolhnpnlmkjaa.PWkbPrints Go.Proofs.YtiiolhnpnlmkjaaW.PrintWords Go.Proofs.YtiiolhnpnlmkjaaW.PrintLast Go.Proofs.YtiiolhnpnlmkjaaW.PrintMore
attribute [local go_sem] Oper.semAt_some max2_int max_two min2_int min_two
/-- What is written: nothing, where the check does not take the tree. -/
def mixedB (os : List Bool) (g : Ge) : List Int := if checkR g = none then geoB os g 0 else []
theorem ErrV.iface {w : World} {v : Value} {a c : Int} (h : ErrV w v (some (a, c))) : ∃ g : Nat, v = .iface 107 (.pointer (some ⟨g, 0, none⟩)) := by
  obtain ⟨g, e, _⟩ := h
  exact ⟨g, e⟩
set_option maxRecDepth 100000 in
set_option maxHeartbeats 16000000 in
theorem mixed_calls (v : Value) (g : Ge) (O : Option Addr) (co : Nat) (os : List Bool) (w : World) (hv : IsG w v g) (ho : Kd.bool.C w O os.length os) (hbk : g.bulk ≤ 2097152) (hos : os.length ≤ 1152921504606846976) :
    Calls Try.prog 11 #[v, .slice O os.length co] w fun e w' => ∃ u er, e = .returned (.tuple #[u, er]) ∧ kB.R 5 w' w.heap.size (fun _ => True) u (mixedB os g) ∧ ErrV w' er (checkR g) ∧ Below w.heap.size w w' := by
  have hv' := hv
  obtain ⟨A1, c1, A2, c2, A3, c3, rfl, l1, h1, l2, h2, l3, h3⟩ := hv'
  have HV := Aside0.mk hv
  have HO := Aside0.mk ho
  clear hv ho h1 h2 h3
  go_enter Try.func11, Try.ntmps11
  go_wp2_with fail
  obtain ⟨gb, hgb⟩ : ∃ y, y = w.heap.size := ⟨_, rfl⟩
  obtain ⟨W1, hW1⟩ : ∃ y, y = w.alloc (.cells #[.int .i64 g.f0, .slice A1 g.f1.length c1, .slice A2 g.f2.length c2, .slice A3 g.f3.length c3] 28) := ⟨_, rfl⟩
  rw [← hW1, ← hgb]
  have HB1 := Aside0.mk (show Below w.heap.size w W1 by rw [hW1]; exact below_alloc (Below.refl _ _) _)
  have BK := Aside0.mk (show W1.heap[gb]? = some (.cells #[.int .i64 g.f0, .slice A1 g.f1.length c1, .slice A2 g.f2.length c2, .slice A3 g.f3.length c3] 28 (0, 0)) by rw [hW1, hgb]; exact World.alloc_heap_new _ _)
  clear hW1 hgb
  refine (check_calls _ g W1 (HV.out.below HB1.out) (by omega)).mono ?_
  rintro e W2 ⟨er, rfl, her, hb2⟩
  have HB2 := Aside0.mk (below_step HB1.out hb2)
  have BK2 := Aside0.mk ((hb2.block gb (blk_lt BK.out)).trans BK.out)
  have HER := Aside0.mk her
  clear HB1 BK her hb2
  rcases hck : checkR g with _ | ⟨a, c⟩
  · obtain rfl : er = .nilIface := by have h9 := HER.out; rw [hck] at h9; exact h9
    have hb3 : Below W2.heap.size W2 (W2.alloc (.cells #[.slice none 0 0, .slice O os.length co, .int .i64 0] 71)) := below_alloc (Below.refl _ _) _
    have z0_ := pw_cell_below hb3 ((blk_cell BK2.out 0).trans rfl : W2.cell? ⟨gb, 0, none⟩ = some (.int .i64 g.f0))
    have z1_ := pw_cell_below hb3 ((blk_cell BK2.out 1).trans rfl : W2.cell? ⟨gb, 1, none⟩ = some (.slice A1 g.f1.length c1))
    have z2_ := pw_cell_below hb3 ((blk_cell BK2.out 2).trans rfl : W2.cell? ⟨gb, 2, none⟩ = some (.slice A2 g.f2.length c2))
    have z3_ := pw_cell_below hb3 ((blk_cell BK2.out 3).trans rfl : W2.cell? ⟨gb, 3, none⟩ = some (.slice A3 g.f3.length c3))
    have HP := Aside0.mk (show Pr 71 cfP W2 (W2.alloc (.cells #[.slice none 0 0, .slice O os.length co, .int .i64 0] 71)) W2.heap.size O co os 0 (.slice none 0 0) [] from
      ⟨World.alloc_heap_new _ _, Kd.R_nil _ _ _ _ _, Kd.C_below HO.out HB2.out, Nat.le_refl _, hb3⟩)
    clear hb3
    go_wp2_with fail
    refine (pgeom_calls g.bulk g W2 _ W2.heap.size O co os 0 _ [] _ (Nat.le_refl _) HP.out (HV.out.below HB2.out) (by simp; omega) (by omega) hos).mono ?_
    rintro e W4 ⟨rfl, v4, hp4, -⟩
    obtain ⟨A4, c4, rfl⟩ := Kd.R_slice hp4.r
    have z0_ : W4.cell? ⟨W2.heap.size, 0, none⟩ = some (.slice A4 ([] ++ geoB os g 0).length c4) := (blk_cell hp4.c 0).trans rfl
    rw [List.nil_append] at z0_ hp4
    have HP4 := Aside0.mk hp4
    clear hp4 HP
    go_wp2_with fail
    refine bodyPost_ret (results_tmp2 rfl _ _ _) rfl ?_
    exact ⟨.slice A4 (geoB os g 0).length c4, .nilIface, rfl, by rw [mixedB, if_pos hck]; exact Kd.R_lower (Kd.R_mono HP4.out.r (fun _ _ => trivial)) HB2.out.size, by rw [hck]; rfl, below_step HB2.out HP4.out.K⟩
  · obtain ⟨ge, rfl⟩ := ErrV.iface (by have h9 := HER.out; rw [hck] at h9; exact h9)
    go_wp2_with fail
    refine bodyPost_ret (results_tmp2 rfl _ _ _) rfl ?_
    exact ⟨.slice none 0 0, .iface 107 (.pointer (some ⟨ge, 0, none⟩)), rfl, by rw [mixedB, if_neg (by rw [hck]; simp)]; exact Kd.R_nil _ _ _ _ _, HER.out, HB2.out⟩
theorem bool_lit (W : World) (le : Bool) : Kd.bool.C (W.alloc (.cells #[.bool le] 4)) (some ⟨W.heap.size, 0, none⟩) 1 [le] := by
  have h : Kd.bool.R 4 (W.alloc (.cells #[.bool le] 4)) W.heap.size (fun _ => True) (.slice (some ⟨W.heap.size, 0, none⟩) 1 1) [le] :=
    Kd.R_of_own ⟨by simp [encs], .inr ⟨W.heap.size, 1, #[.bool le], rfl, Nat.le_refl _, World.alloc_heap_new _ _, Nat.le_refl _, by decide, by simp, by simp [encs]⟩⟩ (fun _ _ => trivial)
  exact (Kd.R_reads' h).2.2
set_option maxRecDepth 100000 in
set_option maxHeartbeats 16000000 in
theorem print_calls (v : Value) (g : Ge) (le : Bool) (w : World) (hv : IsG w v g) (hbk : g.bulk ≤ 2097152) :
    Calls Try.prog 7 #[v, .bool le] w fun e w' => ∃ u er, e = .returned (.tuple #[u, er]) ∧ kB.R 5 w' w.heap.size (fun _ => True) u (mixedB [le] g) ∧ ErrV w' er (checkR g) ∧ Below w.heap.size w w' := by
  have hv' := hv
  obtain ⟨A1, c1, A2, c2, A3, c3, rfl, l1, h1, l2, h2, l3, h3⟩ := hv'
  have HV := Aside0.mk hv
  clear hv h1 h2 h3
  go_enter Try.func7, Try.ntmps7
  go_wp2_with fail
  have hba : Below w.heap.size w (w.alloc (.cells #[.int .i64 g.f0, .slice A1 g.f1.length c1, .slice A2 g.f2.length c2, .slice A3 g.f3.length c3] 28)) := below_alloc (Below.refl _ _) _
  have hbb : Below w.heap.size w ((w.alloc (.cells #[.int .i64 g.f0, .slice A1 g.f1.length c1, .slice A2 g.f2.length c2, .slice A3 g.f3.length c3] 28)).alloc (.cells #[.bool le] 4)) := below_alloc hba _
  have hlt := bool_lit (w.alloc (.cells #[.int .i64 g.f0, .slice A1 g.f1.length c1, .slice A2 g.f2.length c2, .slice A3 g.f3.length c3] 28)) le
  rw [show (w.alloc (.cells #[.int .i64 g.f0, .slice A1 g.f1.length c1, .slice A2 g.f2.length c2, .slice A3 g.f3.length c3] 28)).heap.size = w.heap.size + 1 from by simp] at hlt
  refine (mixed_calls _ g (some ⟨w.heap.size + 1, 0, none⟩) 1 [le] _ (HV.out.below hbb) hlt hbk (by simp)).mono ?_
  rintro e W2 ⟨u, er, rfl, hu, her, hb2⟩
  have HU := Aside0.mk (And.intro (Kd.R_lower hu hbb.size) (And.intro her (below_step hbb hb2)))
  clear hba hbb hlt hu her hb2
  go_wp2_with fail
  refine bodyPost_ret (results_tmp2 rfl _ _ _) rfl ?_
  exact ⟨u, er, rfl, HU.out.1, HU.out.2.1, HU.out.2.2⟩
end Go.Proofs.Ytiiolhnpnlmkjaa.Tree
namespace Go.Proofs.Ytiiolhnpnlmkjaa.Tree
open Go.RowKit Go.Proofs.Ytiiolhnpnlmkjaa.PWkbPrints Go.Proofs.YtiiolhnpnlmkjaaW.PrintWords Go.Proofs.YtiiolhnpnlmkjaaW.PrintLast Go.Proofs.YtiiolhnpnlmkjaaW.PrintMore
attribute [local go_sem] Oper.semAt_some max2_int max_two min2_int min_two
end Go.Proofs.Ytiiolhnpnlmkjaa.Tree
namespace Go.Proofs.Ytiiolhnpnlmkjaa.Tree
open Go.RowKit Go.Proofs.Ytiiolhnpnlmkjaa.PWkbPrints Go.Proofs.YtiiolhnpnlmkjaaW.PrintWords Go.Proofs.YtiiolhnpnlmkjaaW.PrintLast Go.Proofs.YtiiolhnpnlmkjaaW.PrintMore
theorem scan_all : ∀ (l : List It) (k n : Nat), scanC k n l = none → ∀ x ∈ l, shapedB x = true := by
  intro l
  induction l with
  | nil => intro k n _ x hx; cases hx
  | cons y l ih =>
    intro k n h x hx
    rw [scanC_cons] at h
    split at h
    · rename_i h0
      rcases List.mem_cons.1 hx with rfl | hx
      · rw [wrong_eq] at h0
        by_cases hs : shapedB x = true
        · exact hs
        · exfalso
          rw [if_neg hs] at h0
          split at h0 <;> cases h0
      · exact ih _ _ h x hx
    · cases h
/-- Every geometry of a tree is shaped. -/
def AllS (g : Ge) (lvl o : Int) : Prop := ∀ x ∈ nodes g lvl o, shapedB x = true
theorem AllS.of {g : Ge} (h : checkR g = none) : AllS g 1 0 := scan_all _ _ _ h
theorem AllS.here {g : Ge} {lvl o : Int} (h : AllS g lvl o) : shapedB ⟨g, lvl, o⟩ = true := h _ (by rw [nodes_eq]; exact List.mem_cons_self ..)
theorem AllS.part {g p : Ge} {lvl o : Int} (h : AllS g lvl o) (hp : p ∈ g.f3) : AllS p (lvl + 1) g.f0 := by
  intro x hx
  refine h x ?_
  rw [nodes_eq]
  refine List.mem_cons_of_mem _ ?_
  rw [nodesL_flat]
  exact List.mem_flatten.2 ⟨_, List.mem_map.2 ⟨p, hp, rfl⟩, hx⟩
end Go.Proofs.Ytiiolhnpnlmkjaa.Tree
namespace Go.Proofs.Ytiiolhnpnlmkjaa.Tree
open Go.RowKit Go.Proofs.Ytiiolhnpnlmkjaa.PWkbPrints Go.Proofs.YtiiolhnpnlmkjaaW.PrintWords Go.Proofs.YtiiolhnpnlmkjaaW.PrintLast Go.Proofs.YtiiolhnpnlmkjaaW.PrintMore Go.Proofs.Ytiiolhnpnlmkjaa.Rdr
def headR (b : List Int) (a : Nat) : Except (Int × Int) (Bool × Int) :=
  if b.length < a + 1 then .error (a, 160) else if 1 < numB b a 1 false % 256 then .error (a, 170) else if b.length < a + 1 + 4 then .error (((a + 1 : Nat) : Int), 160) else
    if numB b (a + 1) 4 (decide (numB b a 1 false % 256 = 1)) % 4294967296 < 1 ∨ 7 < numB b (a + 1) 4 (decide (numB b a 1 false % 256 = 1)) % 4294967296 then .error ((a : Int) + 1, 171) else
      .ok (decide (numB b a 1 false % 256 = 1), numB b (a + 1) 4 (decide (numB b a 1 false % 256 = 1)) % 4294967296)
def bodyR (b : List Int) (deep : Int) (n : Nat) (p : Nat) (level : Int) (le : Bool) (k : Int) : Except (Int × Int) (Ge × Nat × List Bool) :=
  if k = 1 then (placeR b p le).map fun l => (⟨k, l, [], []⟩, p + 16, [le])
  else if k = 2 then match countR b p le 16 with
    | .error e => .error e
    | .ok m => (pointsR b (p + 4) le m).map fun l => (⟨k, l, [], []⟩, p + 4 + 16 * m, [le])
  else if k = 3 then match countR b p le 20 with
    | .error e => .error e
    | .ok m => (ringsR b le m (p + 4)).map fun r => (⟨k, [], r.1, []⟩, r.2, [le])
  else match countR b p le (if k = 4 then 21 else 9) with
    | .error e => .error e
    | .ok m => (partsR (fun q => geomR b deep n q (level + 1) k) m (p + 4)).map fun r => (⟨k, [], [], r.1⟩, r.2.1, le :: r.2.2)
theorem geomR_eq (b : List Int) (deep : Int) (n a : Nat) (level home : Int) : geomR b deep (n + 1) a level home =
    match headR b a with
    | .error e => .error e
    | .ok h => if decide (home = 0 ∨ home = 7 ∨ h.2 = home - 3) = false then .error ((a : Int) + 1, 172) else if deep < level then .error (a, 191) else bodyR b deep n (a + 1 + 4) level h.1 h.2 := by
  rw [geomR]
  unfold headR
  by_cases h1 : b.length < a + 1
  · rw [if_pos h1, if_pos h1]
  rw [if_neg h1, if_neg h1]
  by_cases h2 : 1 < numB b a 1 false % 256
  · rw [if_pos h2, if_pos h2]
  rw [if_neg h2, if_neg h2]
  by_cases h3 : b.length < a + 1 + 4
  · rw [if_pos h3, if_pos h3]
  rw [if_neg h3, if_neg h3]
  generalize numB b (a + 1) 4 (decide (numB b a 1 false % 256 = 1)) % 4294967296 = k
  generalize decide (numB b a 1 false % 256 = 1) = le
  by_cases h4 : k < 1 ∨ 7 < k
  · rw [if_pos h4, if_pos h4]
  rw [if_neg h4, if_neg h4]
  rfl
structure Gd (x : It) : Prop where
  s : shapedB x = true
  f : finL (own x.f0) = true
  r : ∀ q ∈ own x.f0, (0 ≤ q.f0 ∧ q.f0 < 18446744073709551616) ∧ 0 ≤ q.f1 ∧ q.f1 < 18446744073709551616
def AllG (g : Ge) (lvl o : Int) : Prop := ∀ x ∈ nodes g lvl o, Gd x
theorem AllG.here {g : Ge} {lvl o : Int} (h : AllG g lvl o) : Gd ⟨g, lvl, o⟩ := h _ (by rw [nodes_eq]; exact List.mem_cons_self ..)
theorem part_nodes {g p : Ge} (lvl o : Int) (hp : p ∈ g.f3) {x : It} (hx : x ∈ nodes p (lvl + 1) g.f0) : x ∈ nodes g lvl o := by
  rw [nodes_eq]
  refine List.mem_cons_of_mem _ ?_
  rw [nodesL_flat]
  exact List.mem_flatten.2 ⟨_, List.mem_map.2 ⟨p, hp, rfl⟩, hx⟩
theorem AllG.part {g p : Ge} {lvl o : Int} (h : AllG g lvl o) (hp : p ∈ g.f3) : AllG p (lvl + 1) g.f0 := fun x hx => h x (part_nodes lvl o hp hx)
theorem shaped_all {g : Ge} {lvl o : Int} (h : shapedB ⟨g, lvl, o⟩ = true) : (1 ≤ g.f0 ∧ g.f0 ≤ 7) ∧ fitsB g.f0 o = true ∧ (2 < g.f0 → g.f1 = []) ∧ (g.f0 ≠ 3 → g.f2 = []) ∧ (g.f0 < 4 → g.f3 = []) ∧ (∀ r ∈ g.f2, r ≠ []) ∧ (g.f0 = 1 → g.f1.length ≤ 1) := by
  unfold shapedB kindB lacksB at h
  simp only [Bool.and_eq_true, Bool.or_eq_true, decide_eq_true_iff, Bool.not_eq_true', Bool.or_eq_false_iff, Bool.and_eq_false_iff, decide_eq_false_iff_not, List.all_eq_true] at h
  obtain ⟨hk, hf, ⟨h1, h2, h3⟩, hr, h4⟩ := h
  refine ⟨hk, hf, fun h => ?_, fun h => ?_, fun h => ?_, fun r hm e => ?_, fun h => ?_⟩
  · refine List.length_eq_zero_iff.1 ?_
    rcases h1 with h1 | h1 <;> omega
  · refine List.length_eq_zero_iff.1 ?_
    rcases h2 with h2 | h2
    · omega
    · exact absurd h h2
  · refine List.length_eq_zero_iff.1 ?_
    rcases h3 with h3 | h3 <;> omega
  · have := hr r hm
    subst e
    cases this
  · rcases h4 with h4 | h4
    · exact absurd h h4
    · exact h4
theorem fin_pt {q : Pt} {l : List Pt} (h : finL l = true) (hq : q ∈ l) : classOf q.f0 ≤ 2 ∧ classOf q.f1 ≤ 2 := by
  unfold finL finLC at h
  have := List.all_eq_true.1 h q hq
  unfold finC at this
  simp only [Bool.and_eq_true, decide_eq_true_iff] at this
  exact this
theorem le2 {z : Int} (h : ¬ 3 ≤ z) : z ≤ 2 := by omega
theorem nle3 {z : Int} (h : z ≤ 2) : ¬ 3 ≤ z := by omega
theorem n4 {z w : Int} (h : z ≤ 2) : ¬ (z = 4 ∧ w = 4) := by omega
theorem class_nan : classOf 9221120237041090560 = 4 := by kernel_rfl
def CutE {α : Type} (r : Except (Int × Int) α) (k : Nat) : Prop := ∃ p e : Int, r = .error (p, e) ∧ (e = 160 ∨ e = 173) ∧ 0 ≤ p ∧ p ≤ k
structure Two {α : Type} (r : Except (Int × Int) α) (v : α) (e k : Nat) : Prop where
  y : e ≤ k → r = .ok v
  n : k < e → CutE r k
theorem Two.map {α β : Type} {r : Except (Int × Int) α} {v : α} {e k : Nat} (h : Two r v e k) (f : α → β) : Two (r.map f) (f v) e k := by
  refine ⟨fun h1 => by rw [h.y h1]; rfl, fun h1 => ?_⟩
  obtain ⟨p, e, hr, hp⟩ := h.n h1
  exact ⟨p, e, by rw [hr]; rfl, hp⟩
def ptB (le : Bool) (q : Pt) : List Int := P64 [] q.f0 le ++ P64 [] q.f1 le
theorem ptB_eq (le : Bool) (q : Pt) : P64 (P64 [] q.f0 le) q.f1 le = ptB le q := P64_app _ _ _
theorem ptB_len (le : Bool) (q : Pt) : (ptB le q).length = 16 := by rw [ptB, List.length_append, P64_len, P64_len]; rfl
theorem ptsB_nil (le : Bool) : ptsB le [] = [] := rfl
theorem ptsB_cons (le : Bool) (q : Pt) (l : List Pt) : ptsB le (q :: l) = ptB le q ++ ptsB le l := by unfold ptsB; rw [List.flatMap_cons, ptB_eq]
def Rg (q : Pt) : Prop := (0 ≤ q.f0 ∧ q.f0 < 18446744073709551616) ∧ 0 ≤ q.f1 ∧ q.f1 < 18446744073709551616
theorem St.pt {b : List Int} {a : Nat} {le : Bool} {q : Pt} (h : St b a (ptB le q)) (hr : Rg q) : numB b a 8 le = q.f0 ∧ numB b (a + 8) 8 le = q.f1 := by
  have h2 := St.app h
  rw [P64_len] at h2
  exact ⟨h2.1.w64 hr.1.1 hr.1.2, St.w64 (a := a + 8) h2.2 hr.2.1 hr.2.2⟩
theorem rg_nan : Rg nanP := by
  refine ⟨⟨?_, ?_⟩, ?_, ?_⟩ <;> (unfold nanP; dsimp only; omega)
theorem class_nanP : classOf nanP.f0 = 4 ∧ classOf nanP.f1 = 4 := ⟨class_nan, class_nan⟩
section
variable {b c : List Int} {k : Nat}
theorem clen (hc : c = b.take k) (hk : k ≤ b.length) : c.length = k := by rw [hc, List.length_take]; omega
theorem count2 (hc : c = b.take k) (hk : k ≤ b.length) {a n least : Nat} {le : Bool} (h : St b a (P32 (u32 n) le)) (hn : n < 4294967296) (ha : a ≤ k) :
    (k < a + 4 → countR c a le least = .error (a, 160)) ∧ (a + 4 ≤ k → k < a + 4 + n * least → countR c a le least = .error (a, 173)) ∧ (a + 4 + n * least ≤ k → countR c a le least = .ok n) := by
  have hl := clen hc hk
  have hu : u32 (n : Int) = n := by unfold u32; rw [IntKind.wrap_u32]; omega
  have hw : a + 4 ≤ k → numB c a 4 le % 4294967296 = n := fun hq => by
    rw [hu] at h
    have h9 : St c a (P32 (n : Int) le) := by rw [hc]; exact h.cut (by rw [P32_len]; exact hq)
    rw [h9.w32 (by omega) (by omega)]
    omega
  unfold countR
  rw [hl]
  refine ⟨fun h1 => if_pos h1, fun h1 h2 => ?_, fun h1 => ?_⟩
  · rw [if_neg (by omega), hw h1, Int.toNat_natCast, if_pos h2]
  · rw [if_neg (by omega), hw (by omega), Int.toNat_natCast, if_neg (by omega)]
theorem place2 (hc : c = b.take k) (hk : k ≤ b.length) {a : Nat} {le : Bool} {l : List Pt} (hl1 : l.length ≤ 1) (h : St b a (if l.length = 0 then ptsB le [nanP] else ptsB le l)) (hf : finL l = true) (hr : ∀ q ∈ l, Rg q) (ha : a ≤ k) : Two (placeR c a le) l (a + 16) k := by
  have hl := clen hc hk
  refine ⟨fun h1 => ?_, fun h1 => ?_⟩
  · unfold placeR
    rw [hl, if_neg (by omega), if_neg (by omega)]
    match l, hl1 with
    | [], _ =>
      rw [if_pos (by rfl), ptsB_cons, ptsB_nil, List.append_nil] at h
      have h9 : St c a (ptB le nanP) := by rw [hc]; exact h.cut (by rw [ptB_len]; exact h1)
      obtain ⟨e1, e2⟩ := h9.pt rg_nan
      rw [e1, e2, if_pos class_nanP]
    | [q], _ =>
      rw [if_neg (by simp), ptsB_cons, ptsB_nil, List.append_nil] at h
      have h9 : St c a (ptB le q) := by rw [hc]; exact h.cut (by rw [ptB_len]; exact h1)
      obtain ⟨e1, e2⟩ := h9.pt (hr q (List.mem_singleton_self _))
      obtain ⟨c1, c2⟩ := fin_pt hf (List.mem_singleton_self q)
      rw [e1, e2, if_neg (n4 c1), if_neg (nle3 c1), if_neg (nle3 c2)]
  · unfold placeR
    rw [hl]
    by_cases h2 : k < a + 8
    · exact ⟨a, 160, if_pos h2, .inl rfl, by omega, by omega⟩
    · exact ⟨_, 160, by rw [if_neg h2, if_pos (by omega)], .inl rfl, by omega, by omega⟩
theorem bad_none {a : Nat} {le : Bool} : ∀ (m i : Nat), (∀ j, i ≤ j → j < i + m → classOf (numB c (a + 16 * j) 8 le) ≤ 2 ∧ classOf (numB c (a + 16 * j + 8) 8 le) ≤ 2) → badFrom c a le m i = none := by
  intro m
  induction m with
  | zero => intro i _; rfl
  | succ m ih =>
    intro i h
    have := h i (Nat.le_refl _) (by omega)
    rw [badFrom, if_neg (nle3 this.1), if_neg (nle3 this.2)]
    exact ih (i + 1) (fun j h1 h2 => h j (by omega) (by omega))
theorem St.pts {a : Nat} {le : Bool} : ∀ {l : List Pt} (i : Nat) (hi : i < l.length), St b a (ptsB le l) → St b (a + 16 * i) (ptB le l[i]) := by
  intro l
  induction l generalizing a with
  | nil => intro i hi; cases hi
  | cons q l ih =>
    intro i hi h
    rw [ptsB_cons] at h
    have h2 := h.app
    rw [ptB_len] at h2
    match i with
    | 0 => exact h2.1
    | i + 1 =>
      have := ih (a := a + 16) i (by simpa using hi) h2.2
      rw [show a + 16 * (i + 1) = a + 16 + 16 * i from by omega]
      simpa using this
theorem points_of {a : Nat} {le : Bool} {l : List Pt} (h : St c a (ptsB le l)) (hf : finL l = true) (hr : ∀ q ∈ l, Rg q) : pointsR c a le l.length = .ok l := by
  have hp : ∀ i (hi : i < l.length), numB c (a + 16 * i) 8 le = l[i].f0 ∧ numB c (a + 16 * i + 8) 8 le = l[i].f1 := fun i hi => St.pt (h.pts i hi) (hr _ (List.getElem_mem hi))
  unfold pointsR
  rw [bad_none l.length 0 (fun j _ hj => by
    have hj' : j < l.length := by omega
    rw [(hp j hj').1, (hp j hj').2]
    exact fin_pt hf (List.getElem_mem hj'))]
  show Except.ok (ptsAt c a le l.length) = .ok l
  congr 1
  unfold ptsAt
  refine List.ext_getElem (by simp) fun i h1 h2 => ?_
  simp only [List.getElem_map, List.getElem_range, ptAt]
  rw [(hp i h2).1, (hp i h2).2]
theorem ringB_len (le : Bool) (r : List Pt) : (ringB le r).length = 4 + 16 * r.length := by rw [ringB, List.length_append, P32_len, ptsB_len]
theorem ring2 (hc : c = b.take k) (hk : k ≤ b.length) {a : Nat} {le : Bool} {r : List Pt} (h0 : r ≠ []) (hn : r.length < 4294967296) (h : St b a (ringB le r)) (hf : finL r = true) (hr : ∀ q ∈ r, Rg q) (ha : a ≤ k) : Two (ringR c a le) r (a + (4 + 16 * r.length)) k := by
  have hl := clen hc hk
  have hu : u32 (r.length : Int) = r.length := by unfold u32; rw [IntKind.wrap_u32]; omega
  have h1 := St.app h
  rw [hu, P32_len] at h1
  have hw : a + 4 ≤ k → numB c a 4 le % 4294967296 = (r.length : Int) := fun hq => by
    have h9 : St c a (P32 (r.length : Int) le) := by rw [hc]; exact h1.1.cut (by rw [P32_len]; exact hq)
    rw [h9.w32 (by omega) (by omega)]
    omega
  have hp : 0 < r.length := List.length_pos_iff.2 h0
  refine ⟨fun h2 => ?_, fun h2 => ?_⟩
  · unfold ringR
    rw [hl, if_neg (by omega), hw (by omega), if_neg (by omega), Int.toNat_natCast, if_neg (by omega)]
    exact points_of (by rw [hc]; exact h1.2.cut (by rw [ptsB_len]; omega)) hf hr
  · unfold ringR
    rw [hl]
    by_cases h3 : k < a + 4
    · exact ⟨a, 160, if_pos h3, .inl rfl, by omega, by omega⟩
    · exact ⟨a, 173, by rw [if_neg h3, hw (by omega), if_neg (by omega), Int.toNat_natCast, if_pos (by omega)], .inr rfl, by omega, by omega⟩
theorem ringsB_cons (le : Bool) (r : List Pt) (l : List (List Pt)) : ringsB le (r :: l) = ringB le r ++ ringsB le l := by unfold ringsB; rw [List.flatMap_cons]
theorem rings2 (hc : c = b.take k) (hk : k ≤ b.length) {le : Bool} : ∀ (l : List (List Pt)) (a : Nat), (∀ r ∈ l, r ≠ [] ∧ r.length < 4294967296 ∧ finL r = true ∧ ∀ q ∈ r, Rg q) → St b a (ringsB le l) → a ≤ k → Two (ringsR c le l.length a) (l, a + (ringsB le l).length) (a + (ringsB le l).length) k := by
  intro l
  induction l with
  | nil =>
    intro a _ _ ha
    exact ⟨fun _ => rfl, fun h => absurd h (by show ¬ k < a + 0; omega)⟩
  | cons r l ih =>
    intro a hr h ha
    rw [ringsB_cons] at h ⊢
    have h1 := h.app
    obtain ⟨h0, hn, hf, hg⟩ := hr r List.mem_cons_self
    have h2 := ring2 hc hk h0 hn h1.1 hf hg ha
    rw [List.length_cons, List.length_append, ringB_len]
    rw [ringB_len] at h1
    by_cases h3 : a + (4 + 16 * r.length) ≤ k
    · have h4 := ih (a + (4 + 16 * r.length)) (fun r' hr' => hr r' (List.mem_cons_of_mem _ hr')) h1.2 h3
      have e : ringsR c le (l.length + 1) a = (ringsR c le l.length (a + (4 + 16 * r.length))).map fun x => (r :: x.1, x.2) := by
        rw [ringsR, h2.y h3]
        rw [← Nat.add_assoc]
      rw [e, show a + (4 + 16 * r.length + (ringsB le l).length) = a + (4 + 16 * r.length) + (ringsB le l).length from by omega]
      exact h4.map (fun x => (r :: x.1, x.2))
    · refine ⟨fun h => by omega, fun _ => ?_⟩
      obtain ⟨p, e, he, hp⟩ := h2.n (by omega)
      exact ⟨p, e, by rw [ringsR, he], hp⟩
end
def ords (os : List Bool) : Nat → Nat → List Bool
  | _, 0 => []
  | n, m + 1 => ordAt os n :: ords os (n + 1) m
theorem ords_add (os : List Bool) (m m' : Nat) : ∀ n, ords os n (m + m') = ords os n m ++ ords os (n + m) m' := by
  induction m with
  | zero => intro n; simp [ords]
  | succ m ih =>
    intro n
    rw [show m + 1 + m' = (m + m') + 1 from by omega, ords, ords, ih, List.cons_append, show n + 1 + m = n + (m + 1) from by omega]
theorem ords_len (os : List Bool) : ∀ (m n : Nat), (ords os n m).length = m := by
  intro m
  induction m with
  | zero => intro n; rfl
  | succ m ih => intro n; rw [ords, List.length_cons, ih]
def HomeOk (o : Int) : Prop := o = 0 ∨ (4 ≤ o ∧ o ≤ 7)
theorem home_fits {k o : Int} (hk : 1 ≤ k ∧ k ≤ 7) (ho : HomeOk o) : decide (o = 0 ∨ o = 7 ∨ k = o - 3) = fitsB k o := by
  unfold fitsB
  unfold HomeOk at ho
  split
  · rename_i h
    rw [Bool.eq_iff_iff, decide_eq_true_iff, decide_eq_true_iff]
    omega
  · rename_i h
    rw [decide_eq_true_iff]
    omega
theorem head_of {c : List Int} {a : Nat} {le : Bool} {k : Int} (h : St c a (bitB le ++ P32 (u32 k) le)) (ha : a ≤ c.length) (hk : 1 ≤ k ∧ k ≤ 7) : headR c a = .ok (le, k) := by
  have hu : u32 k = k := by unfold u32; rw [IntKind.wrap_u32]; omega
  rw [hu] at h
  have hl := h.le ha
  rw [List.length_append, P32_len] at hl
  have h1 := h.app
  have hb : (bitB le).length = 1 := rfl
  rw [hb] at hl h1
  have e1 : numB c a 1 false = if le = true then 1 else 0 := by
    have h2 := h1.1
    unfold bitB at h2
    rw [h2.w8 (by cases le <;> decide) (by cases le <;> decide)]
  have e2 : decide (numB c a 1 false % 256 = 1) = le := by rw [e1]; cases le <;> decide
  have e3 : numB c (a + 1) 4 le = k := h1.2.w32 (by omega) (by omega)
  unfold headR
  rw [if_neg (by omega), if_neg (by rw [e1]; cases le <;> decide), if_neg (by omega), e2, e3, if_neg (by omega), show k % 4294967296 = k from by omega]
theorem head2 {b c : List Int} {k a : Nat} (hc : c = b.take k) (hk : k ≤ b.length) {le : Bool} {kd : Int} (h : St b a (bitB le ++ P32 (u32 kd) le)) (hkd : 1 ≤ kd ∧ kd ≤ 7) (ha : a ≤ k) : Two (headR c a) (le, kd) (a + 5) k := by
  have hl := clen hc hk
  have h5 : (bitB le ++ P32 (u32 kd) le).length = 5 := by rw [List.length_append, P32_len]; rfl
  refine ⟨fun h1 => head_of (by rw [hc]; exact h.cut (by rw [h5]; exact h1)) (by omega) hkd, fun h1 => ?_⟩
  unfold headR
  rw [hl]
  by_cases h2 : k < a + 1
  · exact ⟨a, 160, if_pos h2, .inl rfl, by omega, by omega⟩
  · have h3 : St c a (bitB le) := by rw [hc]; exact h.app.1.cut (by show a + 1 ≤ k; omega)
    have e1 : numB c a 1 false = if le = true then 1 else 0 := by
      unfold bitB at h3
      rw [h3.w8 (by cases le <;> decide) (by cases le <;> decide)]
    exact ⟨_, 160, by rw [if_neg h2, if_neg (by rw [e1]; cases le <;> decide), if_pos (by omega)], .inl rfl, by omega, by omega⟩
theorem geoB_head (os : List Bool) (g : Ge) (n : Nat) : ∃ X, geoB os g n = (bitB (ordAt os n) ++ P32 (u32 g.f0) (ordAt os n)) ++ X ∧ X = (if g.f0 = 1 then (if g.f1.length = 0 then ptsB (ordAt os n) [nanP] else ptsB (ordAt os n) g.f1)
       else if g.f0 = 2 then P32 (u32 g.f1.length) (ordAt os n) ++ ptsB (ordAt os n) g.f1
       else if g.f0 = 3 then P32 (u32 g.f2.length) (ordAt os n) ++ ringsB (ordAt os n) g.f2
       else P32 (u32 g.f3.length) (ordAt os n) ++ partsB os g.f3 (n + 1)) := ⟨_, by rw [geoB_eq, List.append_assoc], rfl⟩
theorem geoB_ge (os : List Bool) (g : Ge) (n : Nat) : 9 ≤ (geoB os g n).length ∧ (g.f0 = 1 → g.f1.length ≤ 1 → (geoB os g n).length = 21) := by
  rw [geoB_eq, List.length_append, List.length_append, P32_len, show (bitB (ordAt os n)).length = 1 from rfl]
  by_cases h1 : g.f0 = 1
  · rw [if_pos h1]
    by_cases h2 : g.f1.length = 0
    · rw [if_pos h2, ptsB_len]
      exact ⟨by simp, fun _ _ => by simp⟩
    · rw [if_neg h2, ptsB_len]
      exact ⟨by omega, fun _ _ => by omega⟩
  · rw [if_neg h1]
    refine ⟨?_, fun h => absurd h h1⟩
    split
    · rw [List.length_append, P32_len]; omega
    · split
      · rw [List.length_append, P32_len]; omega
      · rw [List.length_append, P32_len]; omega
theorem parts_ge (os : List Bool) (m : Nat) : ∀ (l : List Ge) (n : Nat), (∀ p ∈ l, ∀ n, m ≤ (geoB os p n).length) → l.length * m ≤ (partsB os l n).length := by
  intro l
  induction l with
  | nil => intro n _; simp
  | cons p l ih =>
    intro n h
    rw [partsB, List.length_append, List.length_cons, Nat.add_mul]
    have h1 := h p List.mem_cons_self n
    have h2 := ih (n + cntG p) (fun q hq => h q (List.mem_cons_of_mem _ hq))
    omega
theorem parts2 {b : List Int} {k : Nat} (os : List Bool) (f : Nat → Except (Int × Int) (Ge × Nat × List Bool)) : ∀ (l : List Ge) (n a : Nat),
    (∀ p ∈ l, ∀ n a, St b a (geoB os p n) → a ≤ k → Two (f a) (p, a + (geoB os p n).length, ords os n (cntG p)) (a + (geoB os p n).length) k) → St b a (partsB os l n) → a ≤ k →
    Two (partsR f l.length a) (l, a + (partsB os l n).length, ords os n (cntL l)) (a + (partsB os l n).length) k := by
  intro l
  induction l with
  | nil =>
    intro n a _ _ ha
    exact ⟨fun _ => by simp [partsR, partsB, cntL, ords], fun h => absurd h (by simp [partsB]; omega)⟩
  | cons p l ih =>
    intro n a hp h ha
    rw [partsB] at h ⊢
    have h1 := h.app
    have h2 := hp p List.mem_cons_self n a h1.1 ha
    rw [List.length_cons, List.length_append]
    by_cases h3 : a + (geoB os p n).length ≤ k
    · have h4 := ih (n + cntG p) (a + (geoB os p n).length) (fun q hq => hp q (List.mem_cons_of_mem _ hq)) h1.2 h3
      have e : partsR f (l.length + 1) a = (partsR f l.length (a + (geoB os p n).length)).map fun r => (p :: r.1, r.2.1, ords os n (cntG p) ++ r.2.2) := by
        rw [partsR, h2.y h3]
      rw [e, ← Nat.add_assoc, cntL, ords_add]
      exact h4.map (fun r => (p :: r.1, r.2.1, ords os n (cntG p) ++ r.2.2))
    · refine ⟨fun h => by omega, fun _ => ?_⟩
      obtain ⟨q, e, he, hq⟩ := h2.n (by omega)
      exact ⟨q, e, by rw [partsR, he], hq⟩
theorem ords_one (os : List Bool) (n : Nat) : ords os n 1 = [ordAt os n] := rfl
theorem ge_mk (g : Ge) : g = ⟨g.f0, g.f1, g.f2, g.f3⟩ := by cases g; rfl
theorem rings_ge (le : Bool) (l : List (List Pt)) (h : ∀ r ∈ l, r ≠ []) : l.length * 20 ≤ (ringsB le l).length := by
  induction l with
  | nil => simp
  | cons r l ih =>
    rw [ringsB_cons, List.length_append, ringB_len, List.length_cons]
    have h1 := ih (fun r hr => h r (List.mem_cons_of_mem _ hr))
    have h2 := List.length_pos_iff.2 (h r List.mem_cons_self)
    omega
theorem flat_le {α : Type} {r : List α} {l : List (List α)} (h : r ∈ l) : r.length ≤ l.flatten.length := by
  induction l with
  | nil => cases h
  | cons x l ih =>
    rw [List.flatten_cons, List.length_append]
    rcases List.mem_cons.1 h with rfl | h
    · omega
    · have := ih h
      omega
theorem count_then {b c : List Int} {k : Nat} (hc : c = b.take k) (hk : k ≤ b.length) {a n least e : Nat} {le : Bool} (h : St b a (P32 (u32 n) le)) (hn : n < 4294967296) (ha : a ≤ k) {α : Type} (F : Nat → Except (Int × Int) α) (v : α) (he : a + 4 + n * least ≤ e) (hF : a + 4 + n * least ≤ k → Two (F n) v e k) :
    Two (match countR c a le least with | .error x => .error x | .ok m => F m) v e k := by
  obtain ⟨c1, c2, c3⟩ := count2 hc hk (least := least) h hn ha
  by_cases h1 : k < a + 4
  · rw [c1 h1]
    exact ⟨fun h => by omega, fun _ => ⟨a, 160, rfl, .inl rfl, by omega, by omega⟩⟩
  by_cases h2 : k < a + 4 + n * least
  · rw [c2 (by omega) h2]
    exact ⟨fun h => by omega, fun _ => ⟨a, 173, rfl, .inr rfl, by omega, by omega⟩⟩
  rw [c3 (by omega)]
  exact hF (by omega)
theorem Two.to {α : Type} {r : Except (Int × Int) α} {v v' : α} {e e' k : Nat} (h : Two r v e k) (hv : v = v') (he : e = e') : Two r v' e' k := by
  subst hv he
  exact h
theorem geom2 {b c : List Int} {k : Nat} (hc : c = b.take k) (hk : k ≤ b.length) (os : List Bool) (deep : Int) (m : Nat) : ∀ (g : Ge) (lvl o : Int) (n a fuel : Nat), g.bulk ≤ m → g.bulk < 4294967296 → AllG g lvl o → (∀ x ∈ nodes g lvl o, x.f1 ≤ deep) →
    deep + 2 ≤ fuel + lvl → HomeOk o → St b a (geoB os g n) → a ≤ k → Two (geomR c deep fuel a lvl o) (g, a + (geoB os g n).length, ords os n (cntG g)) (a + (geoB os g n).length) k := by
  induction m with
  | zero => intro g _ _ _ _ _ h; have := g.bulk_eq; omega
  | succ m ih =>
    intro g lvl o n a fuel hm hbk hG hd hfu ho h ha
    have hlv : lvl ≤ deep := hd _ (by rw [nodes_eq]; exact List.mem_cons_self ..)
    obtain ⟨fu, rfl⟩ : ∃ fu, fuel = fu + 1 := ⟨fuel - 1, by omega⟩
    obtain ⟨hkd, hfit, s1, s2, s3, s4, s5⟩ := shaped_all hG.here.s
    have hfin : finL (own g) = true := hG.here.f
    have hrg : ∀ q ∈ own g, Rg q := hG.here.r
    rw [finL_own, Bool.and_eq_true, List.all_eq_true] at hfin
    obtain ⟨X, hX, eX⟩ := geoB_head os g n
    have hge := geoB_ge os g n
    obtain ⟨le, hle⟩ : ∃ le, le = ordAt os n := ⟨_, rfl⟩
    have hon : ords os n 1 = [le] := by rw [ords_one, hle]
    have hor : ∀ j, ords os n (1 + j) = le :: ords os (n + 1) j := fun j => by rw [ords_add, hon]; rfl
    rw [← hle] at hX eX
    rw [hX] at h hge ⊢
    have h1 := h.app
    have h5 : (bitB le ++ P32 (u32 g.f0) le).length = 5 := by rw [List.length_append, P32_len]; rfl
    rw [h5] at h1
    rw [List.length_append, h5] at hge ⊢
    have hh := head2 hc hk h1.1 hkd ha
    rw [geomR_eq]
    by_cases h6 : a + 5 ≤ k
    rotate_left
    · refine ⟨fun h => by omega, fun _ => ?_⟩
      obtain ⟨p, e, he, hp⟩ := hh.n (by omega)
      exact ⟨p, e, by rw [he], hp⟩
    rw [hh.y h6]
    dsimp only
    rw [home_fits hkd ho, hfit, if_neg (by decide), if_neg (by omega), show a + 1 + 4 = a + 5 from rfl]
    unfold bodyR
    have hbe := g.bulk_eq
    have hcn := cntG_eq g
    by_cases k1 : g.f0 = 1
    · rw [if_pos k1]
      rw [if_pos k1] at eX
      have e16 : X.length = 16 := by have := hge.2 k1 (s5 k1); omega
      have h1b := h1.2
      rw [eX] at h1b
      refine ((place2 hc hk (s5 k1) h1b hfin.1 (fun q hq => hrg q (by unfold own; exact List.mem_append_left _ hq)) h6).map fun l => ((⟨g.f0, l, [], []⟩ : Ge), a + 5 + 16, [le])).to ?_ (by omega)
      rw [hcn, if_pos (.inl k1), hon, e16, show (⟨g.f0, g.f1, [], []⟩ : Ge) = g from by rw [ge_mk g, ← s2 (by omega), ← s3 (by omega)]]
    rw [if_neg k1] at eX ⊢
    by_cases k2 : g.f0 = 2
    · rw [if_pos k2] at eX ⊢
      have h1b := h1.2
      rw [eX] at h1b ⊢
      have h7 := h1b.app
      rw [P32_len] at h7
      rw [List.length_append, P32_len, ptsB_len]
      refine count_then hc hk h7.1 (by omega) h6 _ _ (by omega) (fun h8 => ⟨fun _ => ?_, fun h => by omega⟩)
      rw [points_of (by rw [hc]; exact h7.2.cut (by rw [ptsB_len]; omega)) hfin.1 (fun q hq => hrg q (by unfold own; exact List.mem_append_left _ hq))]
      rw [hcn, if_pos (.inr (.inl k2)), hon, show a + (5 + (4 + 16 * g.f1.length)) = a + 5 + 4 + 16 * g.f1.length from by omega]
      show Except.ok ((⟨g.f0, g.f1, [], []⟩ : Ge), a + 5 + 4 + 16 * g.f1.length, [le]) = _
      rw [show (⟨g.f0, g.f1, [], []⟩ : Ge) = g from by rw [ge_mk g, ← s2 (by omega), ← s3 (by omega)]]
    rw [if_neg k2] at eX ⊢
    by_cases k3 : g.f0 = 3
    · rw [if_pos k3] at eX ⊢
      have h1b := h1.2
      rw [eX] at h1b ⊢
      have h7 := h1b.app
      rw [P32_len] at h7
      rw [List.length_append, P32_len]
      have h20 := rings_ge le g.f2 s4
      refine count_then hc hk h7.1 (by omega) h6 _ _ (by omega) (fun h8 => ?_)
      refine ((rings2 hc hk g.f2 (a + 5 + 4) (fun r hr => ⟨s4 r hr, ?_, hfin.2 r hr, fun q hq => hrg q ?_⟩) h7.2 (by omega)).map fun r => ((⟨g.f0, [], r.1, []⟩ : Ge), r.2, [le])).to ?_ (by omega)
      · have := flat_le hr
        omega
      · unfold own
        exact List.mem_append_right _ (List.mem_flatten.2 ⟨r, hr, hq⟩)
      · dsimp only
        rw [hcn, if_pos (.inr (.inr k3)), hon, show (⟨g.f0, [], g.f2, []⟩ : Ge) = g from by rw [ge_mk g, ← s1 (by omega), ← s3 (by omega)]]
        congr 2
        omega
    rw [if_neg k3] at eX ⊢
    have h1b := h1.2
    rw [eX] at h1b ⊢
    have h7 := h1b.app
    rw [P32_len] at h7
    rw [List.length_append, P32_len]
    have hl3 := bulks_len g.f3
    have hg9 : g.f3.length * (if g.f0 = 4 then 21 else 9) ≤ (partsB os g.f3 (n + 1)).length := by
      refine parts_ge os _ g.f3 (n + 1) (fun p hp n => ?_)
      have h9 := geoB_ge os p n
      have hpS := shaped_all (hG.part hp).here.s
      split
      · rename_i k4
        have hf : fitsB p.f0 g.f0 = true := hpS.2.1
        unfold fitsB at hf
        rw [if_pos (.inl k4), decide_eq_true_iff] at hf
        have hp1 : p.f0 = 1 := by omega
        have := h9.2 hp1 (hpS.2.2.2.2.2.2 hp1)
        omega
      · exact h9.1
    refine count_then hc hk h7.1 (by omega) h6 _ _ (by omega) (fun h8 => ?_)
    refine ((parts2 os (fun q => geomR c deep fu q (lvl + 1) g.f0) g.f3 (n + 1) (a + 5 + 4) (fun p hp n a hst hak => ?_) h7.2 (by omega)).map fun r => ((⟨g.f0, [], [], r.1⟩ : Ge), r.2.1, le :: r.2.2)).to ?_ (by omega)
    · have hpb := bulks_mem hp
      exact ih p (lvl + 1) g.f0 n a fu (by omega) (by omega) (hG.part hp) (fun x hx => hd x (part_nodes lvl o hp hx)) (by omega) (.inr (by omega)) hst hak
    · dsimp only
      rw [hcn, if_neg (by omega), hor, show (⟨g.f0, [], [], g.f3⟩ : Ge) = g from by rw [ge_mk g, ← s1 (by omega), ← s2 (by omega)]]
      congr 2
      omega
end Go.Proofs.Ytiiolhnpnlmkjaa.Tree
namespace Go.Proofs.Ytiiolhnpnlmkjaa.PMk
open Go.RowKit Go.Proofs.YtiiolhnpnlmkjaaW.PrintWords Go.Proofs.YtiiolhnpnlmkjaaW.PrintLast Go.Proofs.YtiiolhnpnlmkjaaW.PrintMore Go.Proofs.Ytiiolhnpnlmkjaa.Tree
attribute [local go_sem] max2_int min2_int max_two min_two max_three min_three max_four min_four

theorem info5 : (Try.prog.info? 5).map (fun i => (i.zero, i.size, i.bytes)) = some (some (.int .u8 0), 1, 1) := by kernel_rfl
theorem info65 : (Try.prog.info? 65).map (fun i => (i.zero, i.size, i.bytes)) = some (some (.agg #[(.int .u64 0), (.int .u64 0)]), 2, 16) := by kernel_rfl
structure Wn where
  f0 : Int
  f1 : Int
  f2 : (List Int)
def zWn : Wn := ⟨(0 : Int), (0 : Int), ([] : List Int)⟩
def kWn : Kd Wn := Kd.iso (Kd.pair (Kd.int .i64) (Kd.pair (Kd.int .i64) (Kd.slice 63 (Kd.int .u64)))) (fun x : Wn => (x.f0, x.f1, x.f2))
theorem kWn_open {w : World} {x : Wn} {cs : List Value} (h : kWn.K w x cs) : ∃ A2 c2, cs = [.int .i64 x.f0, .int .i64 x.f1, .slice A2 x.f2.length c2] ∧ x.f2.length ≤ c2 ∧ (Kd.int .u64).C w A2 x.f2.length x.f2 := by
  obtain ⟨_, _, rfl, rfl, ⟨_, _, rfl, rfl, ⟨A2, c2, rfl, l2, g2⟩⟩⟩ := h
  exact ⟨A2, c2, rfl, l2, g2⟩
theorem kWn_mk (w : World) (x : Wn) {A2 : Option Addr} {c2 : Nat} (l2 : x.f2.length ≤ c2) (g2 : (Kd.int .u64).C w A2 x.f2.length x.f2) : kWn.K w x [.int .i64 x.f0, .int .i64 x.f1, .slice A2 x.f2.length c2] := ⟨[.int .i64 x.f0], [.int .i64 x.f1, .slice A2 x.f2.length c2], rfl, rfl, ⟨[.int .i64 x.f1], [.slice A2 x.f2.length c2], rfl, rfl, ⟨A2, c2, rfl, l2, g2⟩⟩⟩
def rd_Wn (xs : List Wn) (i : Int) : Wn := xs.getD i.toNat zWn
theorem at_Wn {w : World} {A : Option Addr} {n : Nat} {xs : List Wn} (h : Kd.C kWn w A n xs) (i : Int) (h0 : 0 ≤ i) (h1 : i < n) : ∃ ad A2 c2, A = some ad ∧ w.cell? (ad.add (i.toNat * 3)) = some (.int .i64 (rd_Wn xs i).f0) ∧ w.cell? ⟨(ad.add (i.toNat * 3)).block, (ad.add (i.toNat * 3)).off + 1, none⟩ = some (.int .i64 (rd_Wn xs i).f1) ∧ w.cell? ⟨(ad.add (i.toNat * 3)).block, (ad.add (i.toNat * 3)).off + 2, none⟩ = some (.slice A2 (rd_Wn xs i).f2.length c2) ∧ (rd_Wn xs i).f2.length ≤ c2 ∧ (Kd.int .u64).C w A2 (rd_Wn xs i).f2.length (rd_Wn xs i).f2 := by
  obtain ⟨ad, c, e, _, hK, hc0⟩ := Kd.C_get h zWn i h0 h1
  have hc : ∀ j u, c[j]? = some u → w.cell? (ad.add (i.toNat * 3 + j)) = some u := hc0
  obtain ⟨A2, c2, rfl, l2, g2⟩ := kWn_open hK
  exact ⟨ad, A2, c2, e, hc 0 _ rfl, by rw [← add_field _ _ 1 (by omega)]; exact hc 1 _ rfl, by rw [← add_field _ _ 2 (by omega)]; exact hc 2 _ rfl, l2, g2⟩


def plumblaw17_into.f (a0 : Int) (a1 : Int) : Option (Int) := if a1 = 0 then (none) else (if (Int.tmod a0 a1) < 0 then (some (wrap64 ((Int.tmod a0 a1) + a1))) else (some (Int.tmod a0 a1)))
set_option maxHeartbeats 8000000 in
set_option maxRecDepth 100000 in
theorem plumblaw17_into.calls (a0 : Int) (a1 : Int) (r : Int) (w : World) (h : plumblaw17_into.f a0 a1 = some r) :
    Calls Try.prog 31 #[.int .i64 a0, .int .i64 a1] w fun e w' => e = .returned (.int .i64 r) ∧ Drawn0 w w' := by
  have H : (if a1 = 0 then (none) else (if (Int.tmod a0 a1) < 0 then (some (wrap64 ((Int.tmod a0 a1) + a1))) else (some (Int.tmod a0 a1)))) = some r := h
  clear h
  by_cases c3 : a1 = 0
  · rw [if_pos c3] at H
    exact absurd H (by simp)
  · rw [if_neg c3] at H
    have c3b0 : (a1 == 0) = false := beq_eq_false_iff_ne.mpr c3
    have c3b1 : (a1 != 0) = true := bne_iff_ne.mpr c3
    by_cases c4 : (Int.tmod a0 a1) < 0
    · rw [if_pos c4] at H
      have c4b0 : decide ((Int.tmod a0 a1) < 0) = true := decide_eq_true c4
      clear c4
      obtain rfl := Option.some.inj H
      go_enter Try.func31, Try.ntmps31
      go_wp2
      go_ret
      exact ⟨by first | rfl | (simp; done) | (simp [*]; done), by repeat (first | exact Drawn0.refl _ | apply Drawn0.step)⟩
    · rw [if_neg c4] at H
      have c4b0 : decide ((Int.tmod a0 a1) < 0) = false := decide_eq_false c4
      clear c4
      obtain rfl := Option.some.inj H
      go_enter Try.func31, Try.ntmps31
      go_wp2
      go_ret
      exact ⟨by first | rfl | (simp; done) | (simp [*]; done), by repeat (first | exact Drawn0.refl _ | apply Drawn0.step)⟩


def plumblaw17_finite.f (a0 : Int) : Option (Int) := if (Go.bits .and .u64 (a0 / 4503599627370496) 2047) = 2047 then (some (Go.bits .andNot .u64 a0 4503599627370496)) else (some a0)
set_option maxHeartbeats 8000000 in
set_option maxRecDepth 100000 in
theorem plumblaw17_finite.calls (a0 : Int) (r : Int) (w : World) (h : plumblaw17_finite.f a0 = some r) :
    Calls Try.prog 47 #[.int .u64 a0] w fun e w' => e = .returned (.int .u64 r) ∧ Drawn0 w w' := by
  have H : (if (Go.bits .and .u64 (a0 / 4503599627370496) 2047) = 2047 then (some (Go.bits .andNot .u64 a0 4503599627370496)) else (some a0)) = some r := h
  clear h
  by_cases c2 : (Go.bits .and .u64 (a0 / 4503599627370496) 2047) = 2047
  · rw [if_pos c2] at H
    have c2b0 : ((Go.bits .and .u64 (a0 / 4503599627370496) 2047) == 2047) = true := beq_iff_eq.mpr c2
    have c2b1 : ((Go.bits .and .u64 (a0 / 4503599627370496) 2047) != 2047) = false := bne_eq_false_iff_eq.mpr c2
    clear c2
    obtain rfl := Option.some.inj H
    go_enter Try.func47, Try.ntmps47
    go_wp2
    go_ret
    exact ⟨by first | rfl | (simp; done) | (simp [*]; done), by repeat (first | exact Drawn0.refl _ | apply Drawn0.step)⟩
  · rw [if_neg c2] at H
    have c2b0 : ((Go.bits .and .u64 (a0 / 4503599627370496) 2047) == 2047) = false := beq_eq_false_iff_ne.mpr c2
    have c2b1 : ((Go.bits .and .u64 (a0 / 4503599627370496) 2047) != 2047) = true := bne_iff_ne.mpr c2
    obtain rfl := Option.some.inj H
    go_enter Try.func47, Try.ntmps47
    go_wp2
    go_ret
    exact ⟨by first | rfl | (simp; done) | (simp [*]; done), by repeat (first | exact Drawn0.refl _ | apply Drawn0.step)⟩


def plumblaw17_points.l0 : Nat → Int → List (Pt) → Int → Int → Int → List Int → Option ((List (Pt)))
  | 0, _, _, _, _, _, _ => none
  | k + 1, x1, x5, x6, x113000, x113001, x113002 => if x6 < x1 then (if (wrap64 ((wrap64 (2 * x6)) + 1)) < (x113002.length : Int) then (if 0 ≤ (wrap64 (2 * x6)) then (if (wrap64 (2 * x6)) < (x113002.length : Int) then ((plumblaw17_finite.f (rd x113002 (wrap64 (2 * x6)))).bind fun t115 => (if 0 ≤ (wrap64 ((wrap64 (2 * x6)) + 1)) then ((plumblaw17_finite.f (rd x113002 (wrap64 ((wrap64 (2 * x6)) + 1)))).bind fun t117 => (if x5.length < 8796093022208 then (plumblaw17_points.l0 k x1 (x5 ++ [(⟨t115, t117⟩ : Pt)]) (wrap64 (x6 + 1)) x113000 x113001 x113002) else (none))) else (none))) else (none)) else (none)) else (if x5.length < 8796093022208 then (plumblaw17_points.l0 k x1 (x5 ++ [(⟨4607182418800017408, 4607182418800017408⟩ : Pt)]) (wrap64 (x6 + 1)) x113000 x113001 x113002) else (none))) else (some x5)
def plumblaw17_points.f (k : Nat) (a0_0 : Int) (a0_1 : Int) (l0_2 : List Int) (a1 : Int) : Option ((List (Pt))) := plumblaw17_points.l0 k a1 ([] : List (Pt)) 0 a0_0 a0_1 l0_2
theorem plumblaw17_points.mono_l : ∀ k, (∀ y0 y1 y2 y3 y4 y5, LeO (plumblaw17_points.l0 k y0 y1 y2 y3 y4 y5) (plumblaw17_points.l0 (k + 1) y0 y1 y2 y3 y4 y5))
  | 0 => fun _ _ _ _ _ _ r h => by simp [plumblaw17_points.l0] at h
  | k + 1 => by
    have ih0 := plumblaw17_points.mono_l k
    · intro y0 y1 y2 y3 y4 y5
      unfold plumblaw17_points.l0
      repeat' first
      | (with_reducible exact ih0 _ _ _ _ _ _)
      | (with_reducible exact LeO.refl _)
      | (with_reducible exact LeO.none _)
      | (with_reducible refine LeO.ite ?_ ?_)
      | (with_reducible refine LeO.bind ?_ (fun _ => ?_))
      | exact ih0 _ _ _ _ _ _
      | exact LeO.none _
      | refine LeO.ite ?_ ?_
      | refine LeO.bind ?_ (fun _ => ?_)
theorem plumblaw17_points.mono : ∀ a0 a1 a2 a3 k, LeO (plumblaw17_points.f k a0 a1 a2 a3) (plumblaw17_points.f (k + 1) a0 a1 a2 a3) := by
  intro a0 a1 a2 a3 k
  have ih0 := plumblaw17_points.mono_l k
  unfold plumblaw17_points.f
  repeat' first
      | (with_reducible exact ih0 _ _ _ _ _ _)
      | (with_reducible exact LeO.refl _)
      | (with_reducible exact LeO.none _)
      | (with_reducible refine LeO.ite ?_ ?_)
      | (with_reducible refine LeO.bind ?_ (fun _ => ?_))
      | exact ih0 _ _ _ _ _ _
      | exact LeO.none _
      | refine LeO.ite ?_ ?_
      | refine LeO.bind ?_ (fun _ => ?_)
def plumblaw17_points.T7 : Bool × List (List Nat × List Nat) := (true, [([], []), ([0], [0]), ([], []), ([2], [2]), ([1, 3], [1, 3]), ([4], [4]), ([5], [5]), ([], []), ([7], [7]), ([], []), ([9], [9]), ([10], [10]), ([8, 11], [8, 11]), ([12], [12]), ([13, 6], [13]), ([6, 14], [6, 14]), ([15, 14, 0, 1, 2, 3, 4, 5, 6, 7, 8, 9, 10, 11, 12, 13, 14, 15], [15])])
def plumblaw17_points.B7 : List Nat := [0, 1, 0, 4, 15, 31, 63, 0, 128, 0, 512, 1536, 3968, 8064, 16383, 32767, 65535]
theorem plumblaw17_points.tab7 : rtab .any (opsOf Try.f32 7) = plumblaw17_points.T7 := by kernel_rfl
theorem plumblaw17_points.bits7 : waitsOk plumblaw17_points.T7.2 plumblaw17_points.B7 = true := by kernel_rfl
set_option maxHeartbeats 8000000 in
set_option maxRecDepth 100000 in
theorem plumblaw17_points.calls (k : Nat) (a0_0 : Int) (a0_1 : Int) (A0_2 : Option Addr) (c0_2 : Nat) (l0_2 : List Int) (a1 : Int) (r : List (Pt)) (w : World) (hr0_2 : Kd.C (Kd.int .u64) w A0_2 l0_2.length l0_2) (hc0_2 : l0_2.length ≤ c0_2) (h : plumblaw17_points.f k a0_0 a0_1 l0_2 a1 = some r) :
    Calls Try.prog 32 #[.agg #[.int .i64 a0_0, .int .i64 a0_1, .slice A0_2 l0_2.length c0_2], .int .i64 a1] w fun e w' => ∃ v0_ : Value, e = .returned (v0_) ∧ Kd.R kPt 65 w' w.heap.size (fun _ => True) v0_ r ∧ Below w.heap.size w w' := by
  have hu86 := Try.underlying86
  have hu65 := Try.underlying65
  have HR0_2 := Aside0.mk hr0_2
  have HC0_2 := Aside0.mk hc0_2
  clear hr0_2 hc0_2
  have HB := Aside0.mk (Below.refl w.heap.size w)
  have H : (plumblaw17_points.l0 k a1 ([] : List (Pt)) 0 a0_0 a0_1 l0_2) = some r := h
  clear h
  have H' := Aside0.mk H
  clear H
  go_enter Try.func32, Try.ntmps32
  go_wp2_with (first | ((with_reducible refine gate_dst (N := 2) rfl ?_); refine box_event ?hg (N := 2) ?hd (cs := #[.int .i64 a0_0, .int .i64 a0_1, .slice A0_2 l0_2.length c0_2]) (t := 86) ?hr ?_; (case hd => rfl); (case hg => rfl); (case hr => first | (go_simp; done) | (go_simp; rfl)); intro gb112 hg w3 hbox hb; have n0_ := Aside0.mk (below_step (by repeat (first | (with_reducible first | exact HB.out | apply below_alloc | apply pw_below_drewN | apply below_drew1) | exact HB.out)) hb); have n1_ := Aside0.mk (hbox); have n2_ := Aside0.mk ((by rw [hg]; exact (below_size (by repeat (first | (with_reducible first | exact HB.out | apply below_alloc | apply pw_below_drewN | apply below_drew1) | exact HB.out))) : w.heap.size ≤ gb112)); have n3_ := Aside0.mk ((by rw [hg]; exact (below_size (by repeat (first | (with_reducible first | exact HB.out | apply below_alloc | apply pw_below_drewN | apply below_drew1) | exact HB.out))) : w.heap.size ≤ gb112)); clear HB; have HB := n0_; have BK112 := n1_; have GW112 := n2_; have GE112 := n3_; clear n0_ n1_ n2_ n3_; clear hb hbox hg))
  go_loopg [5, 6] k (fun kq v5 v6 w' => ∃ (x5_1 : List (Pt)) (x6_1 : Int), v6 = .int .i64 x6_1 ∧ Aside0 (plumblaw17_points.l0 kq a1 x5_1 x6_1 a0_0 a0_1 l0_2 = some r) ∧ Aside0 (kq ≤ k) ∧ Aside0 (Kd.R kPt 65 w' w.heap.size (fun _ => True) v5 x5_1) ∧ Aside0 (w'.heap[gb112]? = some (.cells #[.int .i64 a0_0, .int .i64 a0_1, (.slice A0_2 l0_2.length c0_2)] 86 (0, 0))) ∧ Aside0 (Below w.heap.size w w'))
  case atStart => exact ⟨(([] : List (Pt))), (0), (by first | rfl | (simp; done) | (simp [*]; done)), H', ⟨Nat.le_refl _⟩, ⟨by first | exact Kd.R_nil _ _ _ _ _ | exact Kd.N_nil _ _ _ _ _ | exact Kd.V_nil _ _ _ _ _ | exact Kd.Q_nil _ _ _ _ _ | exact Kd.S_nil _ _ _ _ _⟩, ⟨by (with_reducible repeat (first | refine blk_drewN ?_ _ | refine blk_drew ?_ | refine blk_alloc ?_ _)); exact BK112.out⟩, ⟨by repeat (first | (with_reducible first | exact HB.out | apply below_alloc | apply pw_below_drewN | apply below_drew1 | refine below_set ?_ GE112.out) | exact HB.out)⟩⟩
  case round =>
    clear H'
    try clear p2
    try clear c3
    obtain ⟨x5_1, x6_1, rfl, HA, HK1, HO_5, BK112, HB⟩ := hrel
    cases gk with
    | zero => exact absurd HA.out (by simp [plumblaw17_points.l0])
    | succ k1 =>
      have H := HA.out
      clear HA
      simp only [plumblaw17_points.l0] at H
      by_cases c4 : x6_1 < a1
      · rw [if_pos c4] at H
        have c4b0 : decide (x6_1 < a1) = true := decide_eq_true c4
        clear c4
        by_cases c5 : (wrap64 ((wrap64 (2 * x6_1)) + 1)) < (l0_2.length : Int)
        · rw [if_pos c5] at H
          have c5b0 : decide ((wrap64 ((wrap64 (2 * x6_1)) + 1)) < (l0_2.length : Int)) = true := decide_eq_true c5
          clear c5
          obtain ⟨ji6, hji6⟩ : ∃ j_ : Int, (wrap64 (2 * x6_1)) = j_ := ⟨_, rfl⟩
          replace H : (if 0 ≤ (ji6) then (if (ji6) < (l0_2.length : Int) then ((plumblaw17_finite.f (rd l0_2 (ji6))).bind fun t115 => (if 0 ≤ (wrap64 ((ji6) + 1)) then ((plumblaw17_finite.f (rd l0_2 (wrap64 ((ji6) + 1)))).bind fun t117 => (if x5_1.length < 8796093022208 then (plumblaw17_points.l0 k1 a1 (x5_1 ++ [(⟨t115, t117⟩ : Pt)]) (wrap64 (x6_1 + 1)) a0_0 a0_1 l0_2) else (none))) else (none))) else (none)) else (none)) = some r := by first | (rw [hji6] at H; exact H) | (simp only [hji6] at H ⊢; exact H)
          (try rw [hji6] at c5b0)
          have hji6w : (IntKind.i64.wrap (2 * x6_1)) = ji6 := (i64_w _).trans hji6
          by_cases c7 : 0 ≤ (ji6)
          · rw [if_pos c7] at H
            have c7b0 : decide (0 ≤ (ji6)) = true := decide_eq_true c7
            clear c7
            by_cases c8 : (ji6) < (l0_2.length : Int)
            · rw [if_pos c8] at H
              have c8b0 : decide ((ji6) < (l0_2.length : Int)) = true := decide_eq_true c8
              clear c8
              replace H := Option.bind_eq_some_iff.mp H
              obtain ⟨t115, A90, H⟩ := H
              replace H : (if 0 ≤ (wrap64 ((ji6) + 1)) then ((plumblaw17_finite.f (rd l0_2 (wrap64 ((ji6) + 1)))).bind fun t117 => (if x5_1.length < 8796093022208 then (plumblaw17_points.l0 k1 a1 (x5_1 ++ [(⟨t115, t117⟩ : Pt)]) (wrap64 (x6_1 + 1)) a0_0 a0_1 l0_2) else (none))) else (none)) = some r := H
              have A9 := Aside0.mk A90
              clear A90
              obtain ⟨ji10, hji10⟩ : ∃ j_ : Int, (wrap64 ((ji6) + 1)) = j_ := ⟨_, rfl⟩
              replace H : (if 0 ≤ (ji10) then ((plumblaw17_finite.f (rd l0_2 (ji10))).bind fun t117 => (if x5_1.length < 8796093022208 then (plumblaw17_points.l0 k1 a1 (x5_1 ++ [(⟨t115, t117⟩ : Pt)]) (wrap64 (x6_1 + 1)) a0_0 a0_1 l0_2) else (none))) else (none)) = some r := by first | (rw [hji10] at H; exact H) | (simp only [hji10] at H ⊢; exact H)
              (try rw [hji10] at A9)
              (try rw [hji10] at c5b0)
              have hji10w : (IntKind.i64.wrap ((ji6) + 1)) = ji10 := (i64_w _).trans hji10
              by_cases c11 : 0 ≤ (ji10)
              · rw [if_pos c11] at H
                have c11b0 : decide (0 ≤ (ji10)) = true := decide_eq_true c11
                clear c11
                replace H := Option.bind_eq_some_iff.mp H
                obtain ⟨t117, A120, H⟩ := H
                replace H : (if x5_1.length < 8796093022208 then (plumblaw17_points.l0 k1 a1 (x5_1 ++ [(⟨t115, t117⟩ : Pt)]) (wrap64 (x6_1 + 1)) a0_0 a0_1 l0_2) else (none)) = some r := H
                have A12 := Aside0.mk A120
                clear A120
                by_cases c13 : x5_1.length < 8796093022208
                · rw [if_pos c13] at H
                  have LMc13 := Aside0.mk c13
                  clear c13
                  obtain ⟨y118, hy118⟩ : ∃ y_ : List (Pt), y_ = (x5_1 ++ [(⟨t115, t117⟩ : Pt)]) := ⟨_, rfl⟩
                  replace H : (plumblaw17_points.l0 k1 a1 y118 (wrap64 (x6_1 + 1)) a0_0 a0_1 l0_2) = some r := by first | (rw [hy118]; with_reducible exact H) | (have H2_ := (Option.bind_some _ _).symm.trans H; rw [hy118]; with_reducible exact H2_) | (have H2_ := (Option.bind_some _ _).symm.trans H; with_reducible exact H2_) | with_reducible exact H | (rw [hy118]; exact H) | exact H
                  have Ny118 := Aside0.mk hy118
                  clear hy118
                  have H' := Aside0.mk H
                  clear H
                  try go_wp2_with (first | ((with_reducible refine gate_dst (N := 7) rfl ?_); refine box_event ?hg (N := 7) ?hd (cs := #[.int .u64 0, .int .u64 0]) (t := 65) ?hr ?_; (case hd => rfl); (case hg => rfl); (case hr => first | (go_simp; done) | (go_simp; rfl)); intro gb113 hg w14 hbox hb; have n0_ := Aside0.mk (Kd.R_below (Kd.R_elderB (by (with_reducible repeat (first | apply Kd.R_alloc | apply Kd.R_drewN | apply Kd.R_drew)); exact HO_5.out) gb113 (Nat.le_of_eq hg.symm)) hb); have n1_ := Aside0.mk (blk_below (g := gb112) (o := .cells #[.int .i64 a0_0, .int .i64 a0_1, .slice A0_2 l0_2.length c0_2] 86 (0, 0)) (by (with_reducible repeat (first | refine blk_drewN ?_ _ | refine blk_drew ?_ | refine blk_alloc ?_ _)); exact BK112.out) hb); have n2_ := Aside0.mk (below_step (by repeat (first | (with_reducible first | exact HB.out | apply below_alloc | apply pw_below_drewN | apply below_drew1 | refine below_set ?_ GE112.out) | exact HB.out)) hb); have n3_ := Aside0.mk (hbox); have n4_ := Aside0.mk ((by rw [hg]; exact (below_size (by repeat (first | (with_reducible first | exact HB.out | apply below_alloc | apply pw_below_drewN | apply below_drew1 | refine below_set ?_ GE112.out) | exact HB.out))) : w.heap.size ≤ gb113)); have n5_ := Aside0.mk ((by rw [hg]; exact (below_size (by repeat (first | (with_reducible first | exact HB.out | apply below_alloc | apply pw_below_drewN | apply below_drew1 | refine below_set ?_ GE112.out) | exact HB.out))) : w.heap.size ≤ gb113)); have n6_ := Aside0.mk ((by rw [hg]; exact Nat.ne_of_lt (blk_lt (g := gb112) (o := .cells #[.int .i64 a0_0, .int .i64 a0_1, .slice A0_2 l0_2.length c0_2] 86 (0, 0)) (by (with_reducible repeat (first | refine blk_drewN ?_ _ | refine blk_drew ?_ | refine blk_alloc ?_ _)); exact BK112.out)) : gb112 ≠ gb113)); have n7_ := Aside0.mk ((by rw [hg]; exact Nat.ne_of_gt (blk_lt (g := gb112) (o := .cells #[.int .i64 a0_0, .int .i64 a0_1, .slice A0_2 l0_2.length c0_2] 86 (0, 0)) (by (with_reducible repeat (first | refine blk_drewN ?_ _ | refine blk_drew ?_ | refine blk_alloc ?_ _)); exact BK112.out)) : gb113 ≠ gb112)); clear HO_5; clear BK112; clear HB; have HO_5 := n0_; have BK112 := n1_; have HB := n2_; have BK113 := n3_; have GW113 := n4_; have GE113 := n5_; have NB112_113 := n6_; have NB113_112 := n7_; clear n0_ n1_ n2_ n3_ n4_ n5_ n6_ n7_; clear hb hbox hg; have hnb15 := NB113_112.out; have hnc15 := NB112_113.out; have hcz16_0 : w14.cell? ⟨gb113, 0, none⟩ = some (.int .u64 0) := (blk_cell BK113.out 0).trans rfl; have hcz16_1 : w14.cell? ⟨gb113, 1, none⟩ = some (.int .u64 0) := (blk_cell BK113.out 1).trans rfl; have hfz16_0 := blk_frozen BK113.out 0; have hfz16_1 := blk_frozen BK113.out 1; have hcz17_0 : w14.cell? ⟨gb112, 0, none⟩ = some (.int .i64 a0_0) := (blk_cell BK112.out 0).trans rfl; have hcz17_1 : w14.cell? ⟨gb112, 1, none⟩ = some (.int .i64 a0_1) := (blk_cell BK112.out 1).trans rfl; have hcz17_2 : w14.cell? ⟨gb112, 2, none⟩ = some (.slice A0_2 l0_2.length c0_2) := (blk_cell BK112.out 2).trans rfl; have hfz17_0 := blk_frozen BK112.out 0; have hfz17_1 := blk_frozen BK112.out 1; have hfz17_2 := blk_frozen BK112.out 2))
                  have n0_ : Aside0 (Kd.R kPt 65 ((w14.setCell ⟨gb113, 0, none⟩ (.int .u64 4607182418800017408)).setCell ⟨gb113, 1, none⟩ (.int .u64 4607182418800017408)) w.heap.size (fun k_ => k_ ≠ gb113) u5 x5_1) := ⟨by (with_reducible repeat (first | apply Kd.R_alloc | apply Kd.R_drewN | apply Kd.R_drew)); exact Kd.R_mono (Kd.R_far (p := ⟨gb113, 1, none⟩) (Kd.R_far (p := ⟨gb113, 0, none⟩) (Kd.R_mono HO_5.out (fun k_ hk => (⟨hk, hk.2⟩ : _ ∧ k_ ≠ gb113))) (fun _ hk => hk.2) (.int .u64 4607182418800017408)) (fun _ hk => hk.2) (.int .u64 4607182418800017408)) (fun _ hk => hk.1.2)⟩
                  have n1_ : Aside0 (((w14.setCell ⟨gb113, 0, none⟩ (.int .u64 4607182418800017408)).setCell ⟨gb113, 1, none⟩ (.int .u64 4607182418800017408)).heap[gb112]? = some (.cells #[.int .i64 a0_0, .int .i64 a0_1, .slice A0_2 l0_2.length c0_2] 86 (0, 0))) := ⟨by (with_reducible repeat (first | refine blk_drewN ?_ _ | refine blk_drew ?_ | refine blk_alloc ?_ _)); refine blk_far ?_ NB112_113.out _; (with_reducible repeat (first | refine blk_drewN ?_ _ | refine blk_drew ?_ | refine blk_alloc ?_ _)); refine blk_far ?_ NB112_113.out _; (with_reducible repeat (first | refine blk_drewN ?_ _ | refine blk_drew ?_ | refine blk_alloc ?_ _)); exact BK112.out⟩
                  have n2_ : Aside0 (((w14.setCell ⟨gb113, 0, none⟩ (.int .u64 4607182418800017408)).setCell ⟨gb113, 1, none⟩ (.int .u64 4607182418800017408)).heap[gb113]? = some (.cells #[.int .u64 4607182418800017408, .int .u64 4607182418800017408] 65 (0, 0))) := ⟨by (with_reducible repeat (first | refine blk_drewN ?_ _ | refine blk_drew ?_ | refine blk_alloc ?_ _)); refine blk_put (cs := #[.int .u64 4607182418800017408, .int .u64 0]) ?_ 1 _ rfl; (with_reducible repeat (first | refine blk_drewN ?_ _ | refine blk_drew ?_ | refine blk_alloc ?_ _)); refine blk_put (cs := #[.int .u64 0, .int .u64 0]) ?_ 0 _ rfl; (with_reducible repeat (first | refine blk_drewN ?_ _ | refine blk_drew ?_ | refine blk_alloc ?_ _)); exact BK113.out⟩
                  have n3_ : Aside0 (Below w.heap.size w ((w14.setCell ⟨gb113, 0, none⟩ (.int .u64 4607182418800017408)).setCell ⟨gb113, 1, none⟩ (.int .u64 4607182418800017408))) := ⟨by repeat (first | (with_reducible first | exact HB.out | apply below_alloc | apply pw_below_drewN | apply below_drew1 | refine below_set ?_ GE112.out | refine below_set ?_ GE113.out) | exact HB.out)⟩
                  (try clear HO_5)
                  (try clear BK112)
                  (try clear BK113)
                  (try clear HB)
                  generalize ((w14.setCell ⟨gb113, 0, none⟩ (.int .u64 4607182418800017408)).setCell ⟨gb113, 1, none⟩ (.int .u64 4607182418800017408)) = w18 at n0_ n1_ n2_ n3_ ⊢
                  have HO_5 := n0_
                  have BK112 := n1_
                  have BK113 := n2_
                  have HB := n3_
                  clear n0_ n1_ n2_ n3_
                  have n0_ := Aside0.mk (Kd.R_drew HO_5.out)
                  have n1_ := Aside0.mk (blk_drew BK112.out)
                  have n2_ := Aside0.mk (blk_drew BK113.out)
                  have n3_ := Aside0.mk (below_drew1 HB.out)
                  clear HO_5
                  clear BK112
                  clear BK113
                  clear HB
                  have HO_5 := n0_
                  have BK112 := n1_
                  have BK113 := n2_
                  have HB := n3_
                  clear n0_ n1_ n2_ n3_
                  have p114 : 0 ≤ ((ji6) : Int) := of_decide_eq_true (by first | (with_reducible assumption) | assumption)
                  have q114 : (ji6) < (l0_2.length : Int) := of_decide_eq_true (by first | (with_reducible assumption) | assumption)
                  obtain ⟨ad114, e114, hx114_0⟩ := Kd.at_int HR0_2.out (ji6) p114 q114
                  have hw114_0 := hx114_0
                  cases e114
                  replace hx114_0 := (HB.out.cell (World.block_lt_of_cell? w _ hx114_0)).trans hx114_0
                  replace p114 := eq_true p114
                  replace q114 := eq_true q114
                  have p116 : 0 ≤ ((ji10) : Int) := of_decide_eq_true (by first | (with_reducible assumption) | assumption)
                  have q116 : (ji10) < (l0_2.length : Int) := of_decide_eq_true (by first | (with_reducible assumption) | assumption)
                  obtain ⟨ad116, e116, hx116_0⟩ := Kd.at_int HR0_2.out (ji10) p116 q116
                  have hw116_0 := hx116_0
                  obtain rfl : ad114 = ad116 := (by injection e116)
                  replace hx116_0 := (HB.out.cell (World.block_lt_of_cell? w _ hx116_0)).trans hx116_0
                  replace p116 := eq_true p116
                  replace q116 := eq_true q116
                  refine start_ (n := 17) (S := fun w' => w'.cell? ⟨gb112, 0, none⟩ = some (.int .i64 a0_0) ∧ w'.cell? ⟨gb112, 1, none⟩ = some (.int .i64 a0_1) ∧ w'.cell? ⟨gb112, 2, none⟩ = some (.slice (some ad114) l0_2.length c0_2) ∧ w'.cell? (ad114.add ((ji6)).toNat) = some (.int .u64 (rd l0_2 (ji6))) ∧ w'.cell? (ad114.add ((ji10)).toNat) = some (.int .u64 (rd l0_2 (ji10)))) (ds := []) #[false, false, false, false, false, false, false, false, false, false, false, false, false, false, false, false, false] (by kernel_rfl) rfl rfl ⟨(blk_cell BK112.out 0).trans rfl, (blk_cell BK112.out 1).trans rfl, (blk_cell BK112.out 2).trans rfl, ((HB.out.cell (World.block_lt_of_cell? w _ hw114_0)).trans hw114_0), ((HB.out.cell (World.block_lt_of_cell? w _ hw116_0)).trans hw116_0)⟩ (fun hHeld => ?_); refine with_tabW plumblaw17_points.tab7 plumblaw17_points.bits7 (fun HT_ HW_ => ?_)
                  generalize w18.drew = w19 at HO_5 BK112 BK113 HB hx114_0 hx116_0 hHeld ⊢
                  refine pure_ (i := 0) (N := some 21) (v := ?_) (a' := ?_) #[true, false, false, false, false, false, false, false, false, false, false, false, false, false, false, false, false] rfl rfl (any_of HT_.out (by kernel_rfl)) (fun _ _ _ h => h) (Or.inl ⟨by rfl, ?_⟩) ?_ ?_
                  rotate_left
                  · intro w'
                    go_simp
                    with_reducible rfl
                  rotate_left
                  · simp only [Act.put, List.setIfInBounds_toArray, List.set_cons_zero, List.set_cons_succ, i64_w, i32_w]
                    rfl
                  refine pure_ (i := 2) (N := some 23) (v := ?_) (a' := ?_) #[true, false, true, false, false, false, false, false, false, false, false, false, false, false, false, false, false] rfl rfl (any_of HT_.out (by kernel_rfl)) (fun _ _ _ h => h) (Or.inl ⟨by rfl, ?_⟩) ?_ ?_
                  rotate_left
                  · intro w'
                    go_simp
                    with_reducible rfl
                  rotate_left
                  · simp only [Act.put, List.setIfInBounds_toArray, List.set_cons_zero, List.set_cons_succ, i64_w, i32_w]
                    rfl
                  refine pure_ (i := 3) (N := some 24) (v := ?_) (a' := ?_) #[true, false, true, true, false, false, false, false, false, false, false, false, false, false, false, false, false] rfl rfl (any_of HT_.out (by kernel_rfl)) (fun _ _ _ h => h) (Or.inl ⟨by rfl, ?_⟩) ?_ ?_
                  rotate_left
                  · intro w'
                    go_simp
                    with_reducible rfl
                  rotate_left
                  · simp only [Act.put, List.setIfInBounds_toArray, List.set_cons_zero, List.set_cons_succ, i64_w, i32_w]
                    rfl
                  refine pure_ (i := 7) (N := some 28) (v := ?_) (a' := ?_) #[true, false, true, true, false, false, false, true, false, false, false, false, false, false, false, false, false] rfl rfl (any_of HT_.out (by kernel_rfl)) (fun _ _ _ h => h) (Or.inl ⟨by rfl, ?_⟩) ?_ ?_
                  rotate_left
                  · intro w'
                    go_simp
                    with_reducible rfl
                  rotate_left
                  · simp only [Act.put, List.setIfInBounds_toArray, List.set_cons_zero, List.set_cons_succ, i64_w, i32_w]
                    rfl
                  refine pure_ (i := 9) (N := some 30) (v := ?_) (a' := ?_) #[true, false, true, true, false, false, false, true, false, true, false, false, false, false, false, false, false] rfl rfl (any_of HT_.out (by kernel_rfl)) (fun _ _ _ h => h) (Or.inl ⟨by rfl, ?_⟩) ?_ ?_
                  rotate_left
                  · intro w'
                    go_simp
                    with_reducible rfl
                  rotate_left
                  · simp only [Act.put, List.setIfInBounds_toArray, List.set_cons_zero, List.set_cons_succ, i64_w, i32_w]
                    rfl
                  refine pure_ (i := 10) (N := some 31) (v := ?_) (a' := ?_) #[true, false, true, true, false, false, false, true, false, true, true, false, false, false, false, false, false] rfl rfl (any_of HT_.out (by kernel_rfl)) (fun _ _ _ h => h) (Or.inl ⟨by rfl, ?_⟩) ?_ ?_
                  rotate_left
                  · intro w'
                    go_simp
                    with_reducible rfl
                  rotate_left
                  · simp only [Act.put, List.setIfInBounds_toArray, List.set_cons_zero, List.set_cons_succ, i64_w, i32_w]
                    rfl
                  refine pure_ (i := 11) (N := some 32) (v := ?_) (a' := ?_) #[true, false, true, true, false, false, false, true, false, true, true, true, false, false, false, false, false] rfl rfl (any_of HT_.out (by kernel_rfl)) (fun _ _ _ h => h) (Or.inl ⟨by rfl, ?_⟩) ?_ ?_
                  rotate_left
                  · intro w'
                    go_simp
                    with_reducible rfl
                  rotate_left
                  · simp only [Act.put, List.setIfInBounds_toArray, List.set_cons_zero, List.set_cons_succ, i64_w, i32_w]
                    rfl
                  refine take_ (i := 1) (N := some 22) (v := ?_) (a' := ?_) #[true, true, true, true, false, false, false, true, false, true, true, true, false, false, false, false, false] rfl rfl (take_ofW HT_.out HW_.out (by kernel_rfl)) (fun _ _ _ h => h) (Or.inl ⟨by rfl, ?_⟩) hHeld ?_ ?_
                  rotate_left
                  · rintro w' ⟨s0, s1, s2, s3, s4⟩
                    go_simp
                    with_reducible rfl
                  rotate_left
                  · simp only [Act.put, List.setIfInBounds_toArray, List.set_cons_zero, List.set_cons_succ, i64_w, i32_w]
                    rfl
                  refine pure_ (i := 4) (N := some 25) (v := ?_) (a' := ?_) #[true, true, true, true, true, false, false, true, false, true, true, true, false, false, false, false, false] rfl rfl (any_of HT_.out (by kernel_rfl)) (fun _ _ _ h => h) (Or.inl ⟨by rfl, ?_⟩) ?_ ?_
                  rotate_left
                  · intro w'
                    go_simp
                    with_reducible rfl
                  rotate_left
                  · simp only [Act.put, List.setIfInBounds_toArray, List.set_cons_zero, List.set_cons_succ, i64_w, i32_w]
                    rfl
                  refine take_ (i := 5) (N := some 26) (v := ?_) (a' := ?_) #[true, true, true, true, true, true, false, true, false, true, true, true, false, false, false, false, false] rfl rfl (take_ofW HT_.out HW_.out (by kernel_rfl)) (fun _ _ _ h => h) (Or.inl ⟨by rfl, ?_⟩) hHeld ?_ ?_
                  rotate_left
                  · rintro w' ⟨s0, s1, s2, s3, s4⟩
                    go_simp
                    with_reducible rfl
                  rotate_left
                  · simp only [Act.put, List.setIfInBounds_toArray, List.set_cons_zero, List.set_cons_succ, i64_w, i32_w]
                    rfl
                  refine take_ (i := 8) (N := some 29) (v := ?_) (a' := ?_) #[true, true, true, true, true, true, false, true, true, true, true, true, false, false, false, false, false] rfl rfl (take_ofW HT_.out HW_.out (by kernel_rfl)) (fun _ _ _ h => h) (Or.inl ⟨by rfl, ?_⟩) hHeld ?_ ?_
                  rotate_left
                  · rintro w' ⟨s0, s1, s2, s3, s4⟩
                    go_simp
                    with_reducible rfl
                  rotate_left
                  · simp only [Act.put, List.setIfInBounds_toArray, List.set_cons_zero, List.set_cons_succ, i64_w, i32_w]
                    rfl
                  refine pure_ (i := 12) (N := some 33) (v := ?_) (a' := ?_) #[true, true, true, true, true, true, false, true, true, true, true, true, true, false, false, false, false] rfl rfl (any_of HT_.out (by kernel_rfl)) (fun _ _ _ h => h) (Or.inl ⟨by rfl, ?_⟩) ?_ ?_
                  rotate_left
                  · intro w'
                    go_simp
                    with_reducible rfl
                  rotate_left
                  · simp only [Act.put, List.setIfInBounds_toArray, List.set_cons_zero, List.set_cons_succ, i64_w, i32_w]
                    rfl
                  refine take_ (i := 13) (N := some 34) (v := ?_) (a' := ?_) #[true, true, true, true, true, true, false, true, true, true, true, true, true, true, false, false, false] rfl rfl (take_ofW HT_.out HW_.out (by kernel_rfl)) (fun _ _ _ h => h) (Or.inl ⟨by rfl, ?_⟩) hHeld ?_ ?_
                  rotate_left
                  · rintro w' ⟨s0, s1, s2, s3, s4⟩
                    go_simp
                    with_reducible rfl
                  rotate_left
                  · simp only [Act.put, List.setIfInBounds_toArray, List.set_cons_zero, List.set_cons_succ, i64_w, i32_w]
                    rfl
                  refine one_ (i := 6) (N := some 27) #[true, true, true, true, true, true, true, true, true, true, true, true, true, true, false, false, false] rfl rfl (one_of HT_.out (by kernel_rfl)) (by decide) (fun K hK => ?_)
                  refine goes_ Try.func47 (by kernel_rfl) rfl #[.int .u64 (rd l0_2 (ji6))] (by rfl) rfl rfl (by (try simp only [List.map_toArray, List.map_cons, List.map_nil]); first | done | (simp only [hji6]; rfl) | rfl | (simp only [List.length_drop, List.length_take]; rfl)) ?_
                  with_reducible refine (plumblaw17_finite.calls (rd l0_2 (ji6)) t115 _ A9.out).mono ?_
                  rintro e w' ⟨rfl, ⟨nd, rfl⟩⟩
                  refine ⟨_, rfl, ?_⟩
                  refine hK.out _ _ ⟨(blk_cell BK112.out 0).trans rfl, (blk_cell BK112.out 1).trans rfl, (blk_cell BK112.out 2).trans rfl, ((HB.out.cell (World.block_lt_of_cell? w _ hw114_0)).trans hw114_0), ((HB.out.cell (World.block_lt_of_cell? w _ hw116_0)).trans hw116_0)⟩ (fun hHeld => ?_)
                  clear hK K
                  refine norm_ (a' := ?_) ?_ ?_
                  rotate_left
                  · show Act.put _ (some 27) _ = _
                    simp only [Act.put, List.setIfInBounds_toArray, List.set_cons_zero, List.set_cons_succ, i64_w, i32_w]
                    rfl
                  refine one_ (i := 14) (N := some 35) #[true, true, true, true, true, true, true, true, true, true, true, true, true, true, true, false, false] rfl rfl (one_of HT_.out (by kernel_rfl)) (by decide) (fun K hK => ?_)
                  refine goes_ Try.func47 (by kernel_rfl) rfl #[.int .u64 (rd l0_2 (ji10))] (by rfl) rfl rfl (by (try simp only [List.map_toArray, List.map_cons, List.map_nil]); first | done | (simp only [hji10]; rfl) | rfl | (simp only [List.length_drop, List.length_take]; rfl)) ?_
                  with_reducible refine (plumblaw17_finite.calls (rd l0_2 (ji10)) t117 _ A12.out).mono ?_
                  rintro e w' ⟨rfl, ⟨nd, rfl⟩⟩
                  refine ⟨_, rfl, ?_⟩
                  refine hK.out _ _ ⟨(blk_cell BK112.out 0).trans rfl, (blk_cell BK112.out 1).trans rfl, (blk_cell BK112.out 2).trans rfl, ((HB.out.cell (World.block_lt_of_cell? w _ hw114_0)).trans hw114_0), ((HB.out.cell (World.block_lt_of_cell? w _ hw116_0)).trans hw116_0)⟩ (fun hHeld => ?_)
                  clear hK K
                  refine norm_ (a' := ?_) ?_ ?_
                  rotate_left
                  · show Act.put _ (some 35) _ = _
                    simp only [Act.put, List.setIfInBounds_toArray, List.set_cons_zero, List.set_cons_succ, i64_w, i32_w]
                    rfl
                  refine pure_ (i := 15) (N := some 36) (v := ?_) (a' := ?_) #[true, true, true, true, true, true, true, true, true, true, true, true, true, true, true, true, false] rfl rfl (any_of HT_.out (by kernel_rfl)) (fun _ _ _ h => h) (Or.inl ⟨by rfl, ?_⟩) ?_ ?_
                  rotate_left
                  · intro w'
                    go_simp
                    with_reducible rfl
                  rotate_left
                  · simp only [Act.put, List.setIfInBounds_toArray, List.set_cons_zero, List.set_cons_succ, i64_w, i32_w]
                    rfl
                  refine one_ (i := 16) (N := none) #[true, true, true, true, true, true, true, true, true, true, true, true, true, true, true, true, true] rfl rfl (one_of HT_.out (by kernel_rfl)) (by decide) (fun K hK => ?_)
                  have hs20 : w19.cell? ⟨gb113, 0, none⟩ = some (.int .u64 4607182418800017408) := (blk_cell BK113.out 0).trans rfl
                  have hfs20 := blk_frozen BK113.out 0
                  have hns20_0 := NB112_113.out
                  have hms20_0 := NB113_112.out
                  have hs21 : w19.cell? ⟨gb113, 1, none⟩ = some (.int .u64 4607182418800017408) := (blk_cell BK113.out 1).trans rfl
                  have hfs21 := blk_frozen BK113.out 1
                  have hns21_0 := NB112_113.out
                  have hms21_0 := NB113_112.out
                  refine skip_ (w1 := ?_) (by rfl) rfl ?_ ?_
                  rotate_left
                  · go_simp
                    rfl
                  refine hK.out _ _ ⟨((cell_far (p := ⟨gb113, _, none⟩) NB112_113.out _).trans (((cell_far (p := ⟨gb113, _, none⟩) NB112_113.out _).trans (hHeld.1)))), ((cell_far (p := ⟨gb113, _, none⟩) NB112_113.out _).trans (((cell_far (p := ⟨gb113, _, none⟩) NB112_113.out _).trans (hHeld.2.1)))), ((cell_far (p := ⟨gb113, _, none⟩) NB112_113.out _).trans (((cell_far (p := ⟨gb113, _, none⟩) NB112_113.out _).trans (hHeld.2.2.1)))), ((cell_far (p := ⟨gb113, _, none⟩) (by first | exact Nat.ne_of_lt (Nat.lt_of_lt_of_le (by have := World.block_lt_of_cell? _ _ hw114_0; first | rwa [add_block] at this | exact this) GW113.out) | (rw [add_block]; exact Nat.ne_of_lt (Nat.lt_of_lt_of_le (by have := World.block_lt_of_cell? _ _ hw114_0; first | rwa [add_block] at this | exact this) GW113.out)) | (show (Addr.add _ _).block ≠ _; rw [add_block]; exact Nat.ne_of_lt (Nat.lt_of_lt_of_le (by have := World.block_lt_of_cell? _ _ hw114_0; first | rwa [add_block] at this | exact this) GW113.out)) | (dsimp only; exact Nat.ne_of_lt (Nat.lt_of_lt_of_le (by have := World.block_lt_of_cell? _ _ hw114_0; first | rwa [add_block] at this | exact this) GW113.out))) _).trans (((cell_far (p := ⟨gb113, _, none⟩) (by first | exact Nat.ne_of_lt (Nat.lt_of_lt_of_le (by have := World.block_lt_of_cell? _ _ hw114_0; first | rwa [add_block] at this | exact this) GW113.out) | (rw [add_block]; exact Nat.ne_of_lt (Nat.lt_of_lt_of_le (by have := World.block_lt_of_cell? _ _ hw114_0; first | rwa [add_block] at this | exact this) GW113.out)) | (show (Addr.add _ _).block ≠ _; rw [add_block]; exact Nat.ne_of_lt (Nat.lt_of_lt_of_le (by have := World.block_lt_of_cell? _ _ hw114_0; first | rwa [add_block] at this | exact this) GW113.out)) | (dsimp only; exact Nat.ne_of_lt (Nat.lt_of_lt_of_le (by have := World.block_lt_of_cell? _ _ hw114_0; first | rwa [add_block] at this | exact this) GW113.out))) _).trans (hHeld.2.2.2.1)))), ((cell_far (p := ⟨gb113, _, none⟩) (by first | exact Nat.ne_of_lt (Nat.lt_of_lt_of_le (by have := World.block_lt_of_cell? _ _ hw116_0; first | rwa [add_block] at this | exact this) GW113.out) | (rw [add_block]; exact Nat.ne_of_lt (Nat.lt_of_lt_of_le (by have := World.block_lt_of_cell? _ _ hw116_0; first | rwa [add_block] at this | exact this) GW113.out)) | (show (Addr.add _ _).block ≠ _; rw [add_block]; exact Nat.ne_of_lt (Nat.lt_of_lt_of_le (by have := World.block_lt_of_cell? _ _ hw116_0; first | rwa [add_block] at this | exact this) GW113.out)) | (dsimp only; exact Nat.ne_of_lt (Nat.lt_of_lt_of_le (by have := World.block_lt_of_cell? _ _ hw116_0; first | rwa [add_block] at this | exact this) GW113.out))) _).trans (((cell_far (p := ⟨gb113, _, none⟩) (by first | exact Nat.ne_of_lt (Nat.lt_of_lt_of_le (by have := World.block_lt_of_cell? _ _ hw116_0; first | rwa [add_block] at this | exact this) GW113.out) | (rw [add_block]; exact Nat.ne_of_lt (Nat.lt_of_lt_of_le (by have := World.block_lt_of_cell? _ _ hw116_0; first | rwa [add_block] at this | exact this) GW113.out)) | (show (Addr.add _ _).block ≠ _; rw [add_block]; exact Nat.ne_of_lt (Nat.lt_of_lt_of_le (by have := World.block_lt_of_cell? _ _ hw116_0; first | rwa [add_block] at this | exact this) GW113.out)) | (dsimp only; exact Nat.ne_of_lt (Nat.lt_of_lt_of_le (by have := World.block_lt_of_cell? _ _ hw116_0; first | rwa [add_block] at this | exact this) GW113.out))) _).trans (hHeld.2.2.2.2))))⟩ (fun hHeld => ?_)
                  clear hK K
                  refine done_ (done_of HT_.out (by kernel_rfl)) ?_
                  have hcz22_0 : w19.cell? ⟨gb113, 0, none⟩ = some (.int .u64 4607182418800017408) := (blk_cell BK113.out 0).trans rfl
                  have hcz22_1 : w19.cell? ⟨gb113, 1, none⟩ = some (.int .u64 4607182418800017408) := (blk_cell BK113.out 1).trans rfl
                  have hfz22_0 := blk_frozen BK113.out 0
                  have hfz22_1 := blk_frozen BK113.out 1
                  try go_wp2_with (first | ((with_reducible refine gate_builtin (b := .append) (xs := #[.tmp 37, .tmp 39]) rfl ?_); at_builtin; refine Kd.R_append kPt (w0 := w) w.heap.size rfl (.tmp 37) (.tmp 39) 24 65 (.agg #[(.int .u64 0), (.int .u64 0)]) 16 rfl Try.underlying24 info65 rfl (by decide) (by omega) u5 x5_1 (⟨t115, t117⟩ : Pt) [.int .u64 t115, .int .u64 t117] (fun k_ => k_ ≠ gb113) (fun _ => False) rfl (by first | (go_simp; done) | (go_simp; rfl)) ?aP (fun _ hk => hk.elim) ?aF ?aO ?aB ?aS ?aL ?_; (case aP => exact kPt_mkM _ _ _ (⟨t115, t117⟩ : Pt)); (case aB => exact (by repeat (first | (with_reducible first | exact HB.out | apply below_alloc | apply pw_below_drewN | apply below_drew1 | refine below_set ?_ GE112.out | refine below_set ?_ GE113.out) | exact HB.out))); (case aF => exact (fun k_ hk => Kd.freshB (g := gb113) (o := .cells #[.int .u64 t115, .int .u64 t117] 65 (0, 0)) (by (with_reducible repeat (first | refine blk_drewN ?_ _ | refine blk_drew ?_ | refine blk_alloc ?_ _)); refine blk_put (cs := #[.int .u64 t115, .int .u64 4607182418800017408]) ?_ 1 _ rfl; (with_reducible repeat (first | refine blk_drewN ?_ _ | refine blk_drew ?_ | refine blk_alloc ?_ _)); refine blk_put (cs := #[.int .u64 4607182418800017408, .int .u64 4607182418800017408]) ?_ 0 _ rfl; (with_reducible repeat (first | refine blk_drewN ?_ _ | refine blk_drew ?_ | refine blk_alloc ?_ _)); exact BK113.out) k_ hk)); (case aO => exact (by (with_reducible repeat (first | apply Kd.R_alloc | apply Kd.R_drewN | apply Kd.R_drew)); exact Kd.R_mono (Kd.R_far (p := ⟨gb113, 1, none⟩) (Kd.R_far (p := ⟨gb113, 0, none⟩) (Kd.R_mono HO_5.out (fun k_ hk => (⟨hk, hk⟩ : _ ∧ k_ ≠ gb113))) (fun _ hk => hk.2) (.int .u64 t115)) (fun _ hk => hk.2) (.int .u64 t117)) (fun _ hk => hk.1))); (case aS => exact (below_size (by repeat (first | (with_reducible first | exact HB.out | apply below_alloc | apply pw_below_drewN | apply below_drew1 | refine below_set ?_ GE112.out | refine below_set ?_ GE113.out) | exact HB.out)))); (case aL => have := LMc13.out; omega); intro v119 w23 ho hb hg hat; rw [← Ny118.out] at ho; have n0_ := Aside0.mk (blk_grown (g := gb112) (o := .cells #[.int .i64 a0_0, .int .i64 a0_1, .slice (some ad114) l0_2.length c0_2] 86 (0, 0)) (by (with_reducible repeat (first | refine blk_drewN ?_ _ | refine blk_drew ?_ | refine blk_alloc ?_ _)); refine blk_far ?_ NB112_113.out _; (with_reducible repeat (first | refine blk_drewN ?_ _ | refine blk_drew ?_ | refine blk_alloc ?_ _)); refine blk_far ?_ NB112_113.out _; (with_reducible repeat (first | refine blk_drewN ?_ _ | refine blk_drew ?_ | refine blk_alloc ?_ _)); exact BK112.out) hg (Kd.R_ne HO_5.out BK112.out (by decide))); have n1_ := Aside0.mk (blk_grown (g := gb113) (o := .cells #[.int .u64 t115, .int .u64 t117] 65 (0, 0)) (by (with_reducible repeat (first | refine blk_drewN ?_ _ | refine blk_drew ?_ | refine blk_alloc ?_ _)); refine blk_put (cs := #[.int .u64 t115, .int .u64 4607182418800017408]) ?_ 1 _ rfl; (with_reducible repeat (first | refine blk_drewN ?_ _ | refine blk_drew ?_ | refine blk_alloc ?_ _)); refine blk_put (cs := #[.int .u64 4607182418800017408, .int .u64 4607182418800017408]) ?_ 0 _ rfl; (with_reducible repeat (first | refine blk_drewN ?_ _ | refine blk_drew ?_ | refine blk_alloc ?_ _)); exact BK113.out) hg (Kd.R_away HO_5.out (fun _ hk => hk))); have n2_ := Aside0.mk (hb); have n3_ := Aside0.mk (ho); clear BK112; clear BK113; clear HB; clear HO_5; have BK112 := n0_; have BK113 := n1_; have HB := n2_; have HO120 := n3_; clear n0_ n1_ n2_ n3_; clear ho hb hg hat))
                  go_roundg k1
                  case measure => have := HK1.out; omega
                  case rel => exact ⟨(y118), (wrap64 (x6_1 + 1)), (by first | rfl | (simp; done) | (simp [*]; done)), H', ⟨by have := HK1.out; omega⟩, ⟨by (with_reducible repeat (first | apply Kd.R_alloc | apply Kd.R_drewN | apply Kd.R_drew)); exact Kd.R_mono HO120.out (fun _ hk => trivial)⟩, ⟨by (with_reducible repeat (first | refine blk_drewN ?_ _ | refine blk_drew ?_ | refine blk_alloc ?_ _)); exact BK112.out⟩, ⟨by repeat (first | (with_reducible first | exact HB.out | apply below_alloc | apply pw_below_drewN | apply below_drew1 | refine below_set ?_ GE112.out | refine below_set ?_ GE113.out) | exact HB.out)⟩⟩
                · rw [if_neg c13] at H
                  exact absurd H (by simp)
              · rw [if_neg c11] at H
                exact absurd H (by simp)
            · rw [if_neg c8] at H
              exact absurd H (by simp)
          · rw [if_neg c7] at H
            exact absurd H (by simp)
        · rw [if_neg c5] at H
          have c5b0 : decide ((wrap64 ((wrap64 (2 * x6_1)) + 1)) < (l0_2.length : Int)) = false := decide_eq_false c5
          clear c5
          by_cases c24 : x5_1.length < 8796093022208
          · rw [if_pos c24] at H
            have LMc24 := Aside0.mk c24
            clear c24
            obtain ⟨y121, hy121⟩ : ∃ y_ : List (Pt), y_ = (x5_1 ++ [(⟨4607182418800017408, 4607182418800017408⟩ : Pt)]) := ⟨_, rfl⟩
            replace H : (plumblaw17_points.l0 k1 a1 y121 (wrap64 (x6_1 + 1)) a0_0 a0_1 l0_2) = some r := by first | (rw [hy121]; with_reducible exact H) | (have H2_ := (Option.bind_some _ _).symm.trans H; rw [hy121]; with_reducible exact H2_) | (have H2_ := (Option.bind_some _ _).symm.trans H; with_reducible exact H2_) | with_reducible exact H | (rw [hy121]; exact H) | exact H
            have Ny121 := Aside0.mk hy121
            clear hy121
            have H' := Aside0.mk H
            clear H
            go_wp2_with (first | ((with_reducible refine gate_dst (N := 7) rfl ?_); refine box_event ?hg (N := 7) ?hd (cs := #[.int .u64 0, .int .u64 0]) (t := 65) ?hr ?_; (case hd => rfl); (case hg => rfl); (case hr => first | (go_simp; done) | (go_simp; rfl)); intro gb113 hg w25 hbox hb; have n0_ := Aside0.mk (Kd.R_below (Kd.R_elderB (by (with_reducible repeat (first | apply Kd.R_alloc | apply Kd.R_drewN | apply Kd.R_drew)); exact HO_5.out) gb113 (Nat.le_of_eq hg.symm)) hb); have n1_ := Aside0.mk (blk_below (g := gb112) (o := .cells #[.int .i64 a0_0, .int .i64 a0_1, .slice A0_2 l0_2.length c0_2] 86 (0, 0)) (by (with_reducible repeat (first | refine blk_drewN ?_ _ | refine blk_drew ?_ | refine blk_alloc ?_ _)); exact BK112.out) hb); have n2_ := Aside0.mk (below_step (by repeat (first | (with_reducible first | exact HB.out | apply below_alloc | apply pw_below_drewN | apply below_drew1 | refine below_set ?_ GE112.out) | exact HB.out)) hb); have n3_ := Aside0.mk (hbox); have n4_ := Aside0.mk ((by rw [hg]; exact (below_size (by repeat (first | (with_reducible first | exact HB.out | apply below_alloc | apply pw_below_drewN | apply below_drew1 | refine below_set ?_ GE112.out) | exact HB.out))) : w.heap.size ≤ gb113)); have n5_ := Aside0.mk ((by rw [hg]; exact (below_size (by repeat (first | (with_reducible first | exact HB.out | apply below_alloc | apply pw_below_drewN | apply below_drew1 | refine below_set ?_ GE112.out) | exact HB.out))) : w.heap.size ≤ gb113)); have n6_ := Aside0.mk ((by rw [hg]; exact Nat.ne_of_lt (blk_lt (g := gb112) (o := .cells #[.int .i64 a0_0, .int .i64 a0_1, .slice A0_2 l0_2.length c0_2] 86 (0, 0)) (by (with_reducible repeat (first | refine blk_drewN ?_ _ | refine blk_drew ?_ | refine blk_alloc ?_ _)); exact BK112.out)) : gb112 ≠ gb113)); have n7_ := Aside0.mk ((by rw [hg]; exact Nat.ne_of_gt (blk_lt (g := gb112) (o := .cells #[.int .i64 a0_0, .int .i64 a0_1, .slice A0_2 l0_2.length c0_2] 86 (0, 0)) (by (with_reducible repeat (first | refine blk_drewN ?_ _ | refine blk_drew ?_ | refine blk_alloc ?_ _)); exact BK112.out)) : gb113 ≠ gb112)); clear HO_5; clear BK112; clear HB; have HO_5 := n0_; have BK112 := n1_; have HB := n2_; have BK113 := n3_; have GW113 := n4_; have GE113 := n5_; have NB112_113 := n6_; have NB113_112 := n7_; clear n0_ n1_ n2_ n3_ n4_ n5_ n6_ n7_; clear hb hbox hg; have hnb26 := NB113_112.out; have hnc26 := NB112_113.out; have hcz27_0 : w25.cell? ⟨gb113, 0, none⟩ = some (.int .u64 0) := (blk_cell BK113.out 0).trans rfl; have hcz27_1 : w25.cell? ⟨gb113, 1, none⟩ = some (.int .u64 0) := (blk_cell BK113.out 1).trans rfl; have hfz27_0 := blk_frozen BK113.out 0; have hfz27_1 := blk_frozen BK113.out 1; have hcz28_0 : w25.cell? ⟨gb112, 0, none⟩ = some (.int .i64 a0_0) := (blk_cell BK112.out 0).trans rfl; have hcz28_1 : w25.cell? ⟨gb112, 1, none⟩ = some (.int .i64 a0_1) := (blk_cell BK112.out 1).trans rfl; have hcz28_2 : w25.cell? ⟨gb112, 2, none⟩ = some (.slice A0_2 l0_2.length c0_2) := (blk_cell BK112.out 2).trans rfl; have hfz28_0 := blk_frozen BK112.out 0; have hfz28_1 := blk_frozen BK112.out 1; have hfz28_2 := blk_frozen BK112.out 2) | ((with_reducible refine gate_builtin (b := .append) (xs := #[.tmp 37, .tmp 39]) rfl ?_); at_builtin; refine Kd.R_append kPt (w0 := w) w.heap.size rfl (.tmp 37) (.tmp 39) 24 65 (.agg #[(.int .u64 0), (.int .u64 0)]) 16 rfl Try.underlying24 info65 rfl (by decide) (by omega) u5 x5_1 (⟨4607182418800017408, 4607182418800017408⟩ : Pt) [.int .u64 4607182418800017408, .int .u64 4607182418800017408] (fun k_ => k_ ≠ gb113) (fun _ => False) rfl (by first | (go_simp; done) | (go_simp; rfl)) ?aP (fun _ hk => hk.elim) ?aF ?aO ?aB ?aS ?aL ?_; (case aP => exact kPt_mkM _ _ _ (⟨4607182418800017408, 4607182418800017408⟩ : Pt)); (case aB => exact (by repeat (first | (with_reducible first | exact HB.out | apply below_alloc | apply pw_below_drewN | apply below_drew1 | refine below_set ?_ GE112.out | refine below_set ?_ GE113.out) | exact HB.out))); (case aF => exact (fun k_ hk => Kd.freshB (g := gb113) (o := .cells #[.int .u64 4607182418800017408, .int .u64 4607182418800017408] 65 (0, 0)) (by (with_reducible repeat (first | refine blk_drewN ?_ _ | refine blk_drew ?_ | refine blk_alloc ?_ _)); refine blk_put (cs := #[.int .u64 4607182418800017408, .int .u64 0]) ?_ 1 _ rfl; (with_reducible repeat (first | refine blk_drewN ?_ _ | refine blk_drew ?_ | refine blk_alloc ?_ _)); refine blk_put (cs := #[.int .u64 0, .int .u64 0]) ?_ 0 _ rfl; (with_reducible repeat (first | refine blk_drewN ?_ _ | refine blk_drew ?_ | refine blk_alloc ?_ _)); exact BK113.out) k_ hk)); (case aO => exact (by (with_reducible repeat (first | apply Kd.R_alloc | apply Kd.R_drewN | apply Kd.R_drew)); exact Kd.R_mono (Kd.R_far (p := ⟨gb113, 1, none⟩) (Kd.R_far (p := ⟨gb113, 0, none⟩) (Kd.R_mono HO_5.out (fun k_ hk => (⟨hk, hk.2⟩ : _ ∧ k_ ≠ gb113))) (fun _ hk => hk.2) (.int .u64 4607182418800017408)) (fun _ hk => hk.2) (.int .u64 4607182418800017408)) (fun _ hk => hk.1.2))); (case aS => exact (below_size (by repeat (first | (with_reducible first | exact HB.out | apply below_alloc | apply pw_below_drewN | apply below_drew1 | refine below_set ?_ GE112.out | refine below_set ?_ GE113.out) | exact HB.out)))); (case aL => have := LMc24.out; omega); intro v122 w29 ho hb hg hat; rw [← Ny121.out] at ho; have n0_ := Aside0.mk (blk_grown (g := gb112) (o := .cells #[.int .i64 a0_0, .int .i64 a0_1, .slice A0_2 l0_2.length c0_2] 86 (0, 0)) (by (with_reducible repeat (first | refine blk_drewN ?_ _ | refine blk_drew ?_ | refine blk_alloc ?_ _)); refine blk_far ?_ NB112_113.out _; (with_reducible repeat (first | refine blk_drewN ?_ _ | refine blk_drew ?_ | refine blk_alloc ?_ _)); refine blk_far ?_ NB112_113.out _; (with_reducible repeat (first | refine blk_drewN ?_ _ | refine blk_drew ?_ | refine blk_alloc ?_ _)); exact BK112.out) hg (Kd.R_ne HO_5.out BK112.out (by decide))); have n1_ := Aside0.mk (blk_grown (g := gb113) (o := .cells #[.int .u64 4607182418800017408, .int .u64 4607182418800017408] 65 (0, 0)) (by (with_reducible repeat (first | refine blk_drewN ?_ _ | refine blk_drew ?_ | refine blk_alloc ?_ _)); refine blk_put (cs := #[.int .u64 4607182418800017408, .int .u64 0]) ?_ 1 _ rfl; (with_reducible repeat (first | refine blk_drewN ?_ _ | refine blk_drew ?_ | refine blk_alloc ?_ _)); refine blk_put (cs := #[.int .u64 0, .int .u64 0]) ?_ 0 _ rfl; (with_reducible repeat (first | refine blk_drewN ?_ _ | refine blk_drew ?_ | refine blk_alloc ?_ _)); exact BK113.out) hg (Kd.R_away HO_5.out (fun _ hk => hk.2))); have n2_ := Aside0.mk (hb); have n3_ := Aside0.mk (ho); clear BK112; clear BK113; clear HB; clear HO_5; have BK112 := n0_; have BK113 := n1_; have HB := n2_; have HO123 := n3_; clear n0_ n1_ n2_ n3_; clear ho hb hg hat))
            go_roundg k1
            case measure => have := HK1.out; omega
            case rel => exact ⟨(y121), (wrap64 (x6_1 + 1)), (by first | rfl | (simp; done) | (simp [*]; done)), H', ⟨by have := HK1.out; omega⟩, ⟨by (with_reducible repeat (first | apply Kd.R_alloc | apply Kd.R_drewN | apply Kd.R_drew)); exact Kd.R_mono HO123.out (fun _ hk => trivial)⟩, ⟨by (with_reducible repeat (first | refine blk_drewN ?_ _ | refine blk_drew ?_ | refine blk_alloc ?_ _)); exact BK112.out⟩, ⟨by repeat (first | (with_reducible first | exact HB.out | apply below_alloc | apply pw_below_drewN | apply below_drew1 | refine below_set ?_ GE112.out | refine below_set ?_ GE113.out) | exact HB.out)⟩⟩
          · rw [if_neg c24] at H
            exact absurd H (by simp)
      · rw [if_neg c4] at H
        have c4b0 : decide (x6_1 < a1) = false := decide_eq_false c4
        clear c4
        obtain rfl := Option.some.inj H
        go_wp2
        go_ret
        exact ⟨_, by first | rfl | (simp [errW_none, errW_some] <;> rfl) | (simp [*, errW_none, errW_some] <;> rfl), by (with_reducible repeat (first | apply Kd.R_alloc | apply Kd.R_drewN | apply Kd.R_drew)); exact HO_5.out, by repeat (first | (with_reducible first | exact HB.out | apply below_alloc | apply pw_below_drewN | apply below_drew1 | refine below_set ?_ GE112.out) | exact HB.out)⟩

-- NOT PRINTED: function 19 (plumblaw17_Maker_geom)

-- NOT PRINTED: function 5 (plumblaw17_grown)

/-- A state of type 71 at block g of W; what its slices lead to came in by w0. -/
def IsS71 (w0 W : World) (g : Nat) (f0 : List Int) (f1 : List Bool) (f2 : Int) : Prop := ∃ A0 c0, ∃ A1 c1, W.heap[g]? = some (.cells #[.slice A0 f0.length c0, .slice A1 f1.length c1, .int .i64 f2] 71 (0, 0)) ∧ w0.heap.size ≤ g ∧ Kd.C (Kd.int .u8) w0 A0 f0.length f0 ∧ Kd.C Kd.bool w0 A1 f1.length f1
theorem IsS71.grown {w0 W : World} {g : Nat} {f0 : List Int} {f1 : List Bool} {f2 : Int} {W1 : World} {row : Option Nat} (h : IsS71 w0 W g f0 f1 f2) (hw : W.grownBy W1 row) (hne : some g ≠ row) : IsS71 w0 W1 g f0 f1 f2 := by
  obtain ⟨A0, c0, A1, c1, hb, hg, hr0, hr1⟩ := h
  exact ⟨A0, c0, A1, c1, blk_grown hb hw hne, hg, hr0, hr1⟩
theorem IsS71.below {w0 W : World} {g : Nat} {f0 : List Int} {f1 : List Bool} {f2 : Int} {W1 : World} (h : IsS71 w0 W g f0 f1 f2) (hw : Below W.heap.size W W1) : IsS71 w0 W1 g f0 f1 f2 := h.grown (grown_of_below hw none) (by simp)
theorem IsS71.alloc {w0 W : World} {g : Nat} {f0 : List Int} {f1 : List Bool} {f2 : Int} (h : IsS71 w0 W g f0 f1 f2) (o : Obj) : IsS71 w0 (W.alloc o) g f0 f1 f2 := h.below (below_alloc (Below.refl _ _) o)
theorem IsS71.drewN {w0 W : World} {g : Nat} {f0 : List Int} {f1 : List Bool} {f2 : Int} (h : IsS71 w0 W g f0 f1 f2) (m : Nat) : IsS71 w0 (W.drewN m) g f0 f1 f2 := h
theorem IsS71.drew {w0 W : World} {g : Nat} {f0 : List Int} {f1 : List Bool} {f2 : Int} (h : IsS71 w0 W g f0 f1 f2) : IsS71 w0 W.drew g f0 f1 f2 := h
theorem IsS71.apart {w0 W : World} {g : Nat} {f0 : List Int} {f1 : List Bool} {f2 : Int} {α : Type} {d : Kd α} {e : Nat} {base : Nat} {ok : Nat → Prop} {v : Value} {xs : List α} (h : IsS71 w0 W g f0 f1 f2) (ho : d.R e W base ok v xs) (ht : ∀ q, q ∈ e :: d.E → q ≠ 71) : d.R e W base (fun k => ok k ∧ k ≠ g) v xs := by
  obtain ⟨A0, c0, A1, c1, hb, hg, hr0, hr1⟩ := h
  exact Kd.R_types ho hb ht
theorem IsS71.ge {w0 W : World} {g : Nat} {f0 : List Int} {f1 : List Bool} {f2 : Int} (h : IsS71 w0 W g f0 f1 f2) : w0.heap.size ≤ g := by
  obtain ⟨A0, c0, A1, c1, hb, hg, hr0, hr1⟩ := h
  exact hg
theorem IsS71.far {w0 W : World} {g : Nat} {f0 : List Int} {f1 : List Bool} {f2 : Int} {p : Addr} (h : IsS71 w0 W g f0 f1 f2) (hne : g ≠ p.block) (u : Value) : IsS71 w0 (W.setCell p u) g f0 f1 f2 := by
  obtain ⟨A0, c0, A1, c1, hb, hg, hr0, hr1⟩ := h
  exact ⟨A0, c0, A1, c1, blk_far hb hne u, hg, hr0, hr1⟩
theorem cellS71_0 {W : World} {g : Nat} {A0 : Option Addr} {c0 : Nat} {A1 : Option Addr} {c1 : Nat} {f0 : List Int} {f1 : List Bool} {f2 : Int} (h : W.heap[g]? = some (.cells #[.slice A0 f0.length c0, .slice A1 f1.length c1, .int .i64 f2] 71 (0, 0))) : W.cell? ⟨g, 0, none⟩ = some (.slice A0 f0.length c0) := (blk_cell h 0).trans rfl
theorem cellS71_1 {W : World} {g : Nat} {A0 : Option Addr} {c0 : Nat} {A1 : Option Addr} {c1 : Nat} {f0 : List Int} {f1 : List Bool} {f2 : Int} (h : W.heap[g]? = some (.cells #[.slice A0 f0.length c0, .slice A1 f1.length c1, .int .i64 f2] 71 (0, 0))) : W.cell? ⟨g, 1, none⟩ = some (.slice A1 f1.length c1) := (blk_cell h 1).trans rfl
theorem cellS71_2 {W : World} {g : Nat} {A0 : Option Addr} {c0 : Nat} {A1 : Option Addr} {c1 : Nat} {f0 : List Int} {f1 : List Bool} {f2 : Int} (h : W.heap[g]? = some (.cells #[.slice A0 f0.length c0, .slice A1 f1.length c1, .int .i64 f2] 71 (0, 0))) : W.cell? ⟨g, 2, none⟩ = some (.int .i64 f2) := (blk_cell h 2).trans rfl
theorem IsS71.set_2 {w0 W : World} {g : Nat} {f0 : List Int} {f1 : List Bool} {f2 : Int} (h : IsS71 w0 W g f0 f1 f2) (x : Int) : IsS71 w0 (W.setCell ⟨g, 2, none⟩ (.int .i64 x)) g f0 f1 x := by
  obtain ⟨A0, c0, A1, c1, hb, hg, hr0, hr1⟩ := h
  exact ⟨A0, c0, A1, c1, by simpa using blk_set hb 2 (.int .i64 x), hg, hr0, hr1⟩
theorem IsS71.new (w0 W : World) (A0 : Option Addr) (c0 : Nat) (A1 : Option Addr) (c1 : Nat) (f0 : List Int) (f1 : List Bool) (f2 : Int) (hB : Below w0.heap.size w0 W) (hr0 : Kd.C (Kd.int .u8) w0 A0 f0.length f0) (hr1 : Kd.C Kd.bool w0 A1 f1.length f1) : IsS71 w0 (W.alloc (.cells #[.slice A0 f0.length c0, .slice A1 f1.length c1, .int .i64 f2] 71)) W.heap.size f0 f1 f2 := ⟨A0, c0, A1, c1, by simpa using heap_alloc_new W _, hB.size, hr0, hr1⟩


def octet_Hex.l0 : Nat → List Int → List Int → Int → Int → Option (ByteArray)
  | 0, _, _, _, _ => none
  | k + 1, x3, x10, x11, x12 => if x12 < x11 then (if 0 ≤ x12 then (if x12 < (x10.length : Int) then (if 0 ≤ ((rd x10 x12) / 16) then (if ((rd x10 x12) / 16) < 16 then (if 0 ≤ (Go.bits .and .u8 (rd x10 x12) 15) then (if (Go.bits .and .u8 (rd x10 x12) 15) < 16 then ((some (([bt (⟨#[48, 49, 50, 51, 52, 53, 54, 55, 56, 57, 97, 98, 99, 100, 101, 102]⟩ : ByteArray) ((rd x10 x12) / 16), bt (⟨#[48, 49, 50, 51, 52, 53, 54, 55, 56, 57, 97, 98, 99, 100, 101, 102]⟩ : ByteArray) (Go.bits .and .u8 (rd x10 x12) 15)] : List Int) : List Int)).bind fun y177 => (if x3.length + y177.length < 140737488355328 then (octet_Hex.l0 k (x3 ++ y177) x10 x11 (wrap64 (x12 + 1))) else (none))) else (none)) else (none)) else (none)) else (none)) else (none)) else (none)) else (some (strOfNums x3))
def octet_Hex.f (k : Nat) (l0 : List Int) : Option (ByteArray) := if 0 ≤ (wrap64 (2 * (l0.length : Int))) then (if (wrap64 (2 * (l0.length : Int)) : Int).toNat ≤ 281474976710656 then (octet_Hex.l0 k (List.replicate 0 0) l0 (l0.length : Int) 0) else (none)) else (none)
theorem octet_Hex.mono_l : ∀ k, (∀ y0 y1 y2 y3, LeO (octet_Hex.l0 k y0 y1 y2 y3) (octet_Hex.l0 (k + 1) y0 y1 y2 y3))
  | 0 => fun _ _ _ _ r h => by simp [octet_Hex.l0] at h
  | k + 1 => by
    have ih0 := octet_Hex.mono_l k
    · intro y0 y1 y2 y3
      unfold octet_Hex.l0
      repeat' first
      | (with_reducible exact ih0 _ _ _ _)
      | (with_reducible exact LeO.refl _)
      | (with_reducible exact LeO.none _)
      | (with_reducible refine LeO.ite ?_ ?_)
      | (with_reducible refine LeO.bind ?_ (fun _ => ?_))
      | exact ih0 _ _ _ _
      | exact LeO.none _
      | refine LeO.ite ?_ ?_
      | refine LeO.bind ?_ (fun _ => ?_)
theorem octet_Hex.mono : ∀ a0 k, LeO (octet_Hex.f k a0) (octet_Hex.f (k + 1) a0) := by
  intro a0 k
  have ih0 := octet_Hex.mono_l k
  unfold octet_Hex.f
  repeat' first
      | (with_reducible exact ih0 _ _ _ _)
      | (with_reducible exact LeO.refl _)
      | (with_reducible exact LeO.none _)
      | (with_reducible refine LeO.ite ?_ ?_)
      | (with_reducible refine LeO.bind ?_ (fun _ => ?_))
      | exact ih0 _ _ _ _
      | exact LeO.none _
      | refine LeO.ite ?_ ?_
      | refine LeO.bind ?_ (fun _ => ?_)
def octet_Hex.T5 : Bool × List (List Nat × List Nat) := (true, [([], []), ([], []), ([1], [1]), ([2], [2]), ([], []), ([4], [4]), ([5], [5]), ([3, 6], [3, 6]), ([0, 7], [0, 7]), ([8, 8, 0, 1, 2, 3, 4, 5, 6, 7, 8], [0, 8])])
def octet_Hex.B5 : List Nat := [0, 0, 2, 6, 0, 16, 48, 126, 255, 511]
theorem octet_Hex.tab5 : rtab .any (opsOf Try.f20 5) = octet_Hex.T5 := by kernel_rfl
theorem octet_Hex.bits5 : waitsOk octet_Hex.T5.2 octet_Hex.B5 = true := by kernel_rfl
set_option maxHeartbeats 8000000 in
set_option maxRecDepth 100000 in
theorem octet_Hex.calls (k : Nat) (A0 : Option Addr) (c0 : Nat) (l0 : List Int) (r : ByteArray) (w : World) (hr0 : Kd.C (Kd.int .u8) w A0 l0.length l0) (hc0 : l0.length ≤ c0) (h : octet_Hex.f k l0 = some r) :
    Calls Try.prog 20 #[.slice A0 l0.length c0] w fun e w' => e = .returned (.string r) ∧ Below w.heap.size w w' := by
  have HR0 := Aside0.mk hr0
  have HC0 := Aside0.mk hc0
  clear hr0 hc0
  have HB := Aside0.mk (Below.refl w.heap.size w)
  have H : (if 0 ≤ (wrap64 (2 * (l0.length : Int))) then (if (wrap64 (2 * (l0.length : Int)) : Int).toNat ≤ 281474976710656 then (octet_Hex.l0 k (List.replicate 0 0) l0 (l0.length : Int) 0) else (none)) else (none)) = some r := h
  clear h
  obtain ⟨ji2, hji2⟩ : ∃ j_ : Int, (wrap64 (2 * (l0.length : Int))) = j_ := ⟨_, rfl⟩
  replace H : (if 0 ≤ (ji2) then (if (ji2 : Int).toNat ≤ 281474976710656 then (octet_Hex.l0 k (List.replicate 0 0) l0 (l0.length : Int) 0) else (none)) else (none)) = some r := by first | (rw [hji2] at H; exact H) | (simp only [hji2] at H ⊢; exact H)
  have hji2w : (IntKind.i64.wrap (2 * (l0.length : Int))) = ji2 := (i64_w _).trans hji2
  by_cases c3 : 0 ≤ (ji2)
  · rw [if_pos c3] at H
    have c3b0 := eq_true c3
    have c3b1 : decide (0 ≤ (ji2)) = true := decide_eq_true c3
    clear c3
    by_cases c4 : (ji2 : Int).toNat ≤ 281474976710656
    · rw [if_pos c4] at H
      have c4b0 := eq_true c4
      have c4b1 : decide ((ji2 : Int).toNat ≤ 281474976710656) = true := decide_eq_true c4
      clear c4
      obtain ⟨y173, hy173⟩ : ∃ y_ : List Int, y_ = (List.replicate 0 0) := ⟨_, rfl⟩
      replace H : (octet_Hex.l0 k y173 l0 (l0.length : Int) 0) = some r := by first | (rw [hy173]; with_reducible exact H) | (have H2_ := (Option.bind_some _ _).symm.trans H; rw [hy173]; with_reducible exact H2_) | (have H2_ := (Option.bind_some _ _).symm.trans H; with_reducible exact H2_) | with_reducible exact H | (rw [hy173]; exact H) | exact H
      have Ny173 := Aside0.mk hy173
      clear hy173
      have H' := Aside0.mk H
      clear H
      go_enter Try.func20, Try.ntmps20
      go_wp2_with (first | ((with_reducible refine gate_dst (N := 9) rfl ?_); refine Go.Proofs.Ytiiolhnpnlmkjaa.Math.R_make0 (Kd.int .u8) _ 5 rfl (N := 9) rfl 23 _ _ rfl ji2 rfl rfl Try.underlying23 (.int .u8 0) 1 info5 rfl (by decide) (by omega) 0 (ok := fun _ => True) (okp := fun _ => True) rfl (fun _ hk => hk) trivial (of_decide_eq_true (by first | (with_reducible assumption) | assumption)) (Nat.le_trans (Nat.mul_le_mul_right _ (of_decide_eq_true (by first | (with_reducible assumption) | assumption) : ji2.toNat ≤ 281474976710656)) (by omega)) (Below.refl _ _) (Nat.le_refl _) ?_; intro v174 w5 ho6 hb hg_ hnew_; clear hg_ hnew_; (first | rw [← Ny173.out] at ho6 | (simp only [Int.reduceToNat] at ho6; rw [← Ny173.out] at ho6)); have n0_ := Aside0.mk (Kd.R_lower ho6 (below_size (by repeat (first | (with_reducible first | exact HB.out | apply below_alloc | apply pw_below_drewN | apply below_drew1) | exact HB.out)))); have n1_ := Aside0.mk (below_step (by repeat (first | (with_reducible first | exact HB.out | apply below_alloc | apply pw_below_drewN | apply below_drew1) | exact HB.out)) hb); clear HB; have HO175 := n0_; have HB := n1_; clear n0_ n1_; clear hb ho6))
      go_loopg [3, 12] k (fun kq v3 v12 w' => ∃ (x3_1 : List Int) (x12_1 : Int), v12 = .int .i64 x12_1 ∧ Aside0 (octet_Hex.l0 kq x3_1 l0 (l0.length : Int) x12_1 = some r) ∧ Aside0 (kq ≤ k) ∧ Aside0 (Kd.R (Kd.int .u8) 5 w' w.heap.size (fun _ => True) v3 x3_1) ∧ Aside0 (Below w.heap.size w w'))
      case atStart => exact ⟨(y173), (0), (by first | rfl | (simp; done) | (simp [*]; done)), H', ⟨Nat.le_refl _⟩, ⟨by (with_reducible repeat (first | apply Kd.R_alloc | apply Kd.R_drewN | apply Kd.R_drew)); exact HO175.out⟩, ⟨by repeat (first | (with_reducible first | exact HB.out | apply below_alloc | apply pw_below_drewN | apply below_drew1) | exact HB.out)⟩⟩
      case round =>
        clear H'
        try clear c2
        try clear p2
        try clear c3
        try clear c3b0
        try clear c3b1
        try clear c4
        try clear c4b0
        try clear c4b1
        try clear p6
        obtain ⟨x3_1, x12_1, rfl, HA, HK1, HO_3, HB⟩ := hrel
        cases gk with
        | zero => exact absurd HA.out (by simp [octet_Hex.l0])
        | succ k1 =>
          have H := HA.out
          clear HA
          simp only [octet_Hex.l0] at H
          by_cases c7 : x12_1 < (l0.length : Int)
          · rw [if_pos c7] at H
            have c7b0 : decide (x12_1 < (l0.length : Int)) = true := decide_eq_true c7
            clear c7
            by_cases c8 : 0 ≤ x12_1
            · rw [if_pos c8] at H
              have c8b0 : decide (0 ≤ x12_1) = true := decide_eq_true c8
              clear c8
              by_cases c9 : x12_1 < (l0.length : Int)
              · rw [if_pos c9] at H
                have c9b0 : decide (x12_1 < (l0.length : Int)) = true := decide_eq_true c9
                clear c9
                obtain ⟨ji10, hji10⟩ : ∃ j_ : Int, ((rd l0 x12_1) / 16) = j_ := ⟨_, rfl⟩
                replace H : (if 0 ≤ (ji10) then (if (ji10) < 16 then (if 0 ≤ (Go.bits .and .u8 (rd l0 x12_1) 15) then (if (Go.bits .and .u8 (rd l0 x12_1) 15) < 16 then ((some (([bt (⟨#[48, 49, 50, 51, 52, 53, 54, 55, 56, 57, 97, 98, 99, 100, 101, 102]⟩ : ByteArray) (ji10), bt (⟨#[48, 49, 50, 51, 52, 53, 54, 55, 56, 57, 97, 98, 99, 100, 101, 102]⟩ : ByteArray) (Go.bits .and .u8 (rd l0 x12_1) 15)] : List Int) : List Int)).bind fun y177 => (if x3_1.length + y177.length < 140737488355328 then (octet_Hex.l0 k1 (x3_1 ++ y177) l0 (l0.length : Int) (wrap64 (x12_1 + 1))) else (none))) else (none)) else (none)) else (none)) else (none)) = some r := by first | (rw [hji10] at H; exact H) | (simp only [hji10] at H ⊢; exact H)
                by_cases c11 : 0 ≤ (ji10)
                · rw [if_pos c11] at H
                  have c11b0 : decide (0 ≤ (ji10)) = true := decide_eq_true c11
                  clear c11
                  by_cases c12 : (ji10) < 16
                  · rw [if_pos c12] at H
                    have c12b0 : decide ((ji10) < 16) = true := decide_eq_true c12
                    clear c12
                    by_cases c14 : 0 ≤ (Go.bits .and .u8 (rd l0 x12_1) 15)
                    · rw [if_pos c14] at H
                      have c14b0 : decide (0 ≤ (Go.bits .and .u8 (rd l0 x12_1) 15)) = true := decide_eq_true c14
                      clear c14
                      by_cases c15 : (Go.bits .and .u8 (rd l0 x12_1) 15) < 16
                      · rw [if_pos c15] at H
                        have c15b0 : decide ((Go.bits .and .u8 (rd l0 x12_1) 15) < 16) = true := decide_eq_true c15
                        clear c15
                        obtain ⟨y177, hy177⟩ : ∃ y_ : List Int, y_ = (([bt (⟨#[48, 49, 50, 51, 52, 53, 54, 55, 56, 57, 97, 98, 99, 100, 101, 102]⟩ : ByteArray) (ji10), bt (⟨#[48, 49, 50, 51, 52, 53, 54, 55, 56, 57, 97, 98, 99, 100, 101, 102]⟩ : ByteArray) (Go.bits .and .u8 (rd l0 x12_1) 15)] : List Int)) := ⟨_, rfl⟩
                        replace H : (if x3_1.length + y177.length < 140737488355328 then (octet_Hex.l0 k1 (x3_1 ++ y177) l0 (l0.length : Int) (wrap64 (x12_1 + 1))) else (none)) = some r := by first | (rw [hy177]; with_reducible exact H) | (have H2_ := (Option.bind_some _ _).symm.trans H; rw [hy177]; with_reducible exact H2_) | (have H2_ := (Option.bind_some _ _).symm.trans H; with_reducible exact H2_) | with_reducible exact H | (rw [hy177]; exact H) | exact H
                        have Ny177 := Aside0.mk hy177
                        clear hy177
                        by_cases c17 : x3_1.length + y177.length < 140737488355328
                        · rw [if_pos c17] at H
                          have LMc17 := Aside0.mk c17
                          clear c17
                          obtain ⟨y180, hy180⟩ : ∃ y_ : List Int, y_ = (x3_1 ++ y177) := ⟨_, rfl⟩
                          replace H : (octet_Hex.l0 k1 y180 l0 (l0.length : Int) (wrap64 (x12_1 + 1))) = some r := by first | (rw [hy180]; with_reducible exact H) | (have H2_ := (Option.bind_some _ _).symm.trans H; rw [hy180]; with_reducible exact H2_) | (have H2_ := (Option.bind_some _ _).symm.trans H; with_reducible exact H2_) | with_reducible exact H | (rw [hy180]; exact H) | exact H
                          have Ny180 := Aside0.mk hy180
                          clear hy180
                          have H' := Aside0.mk H
                          clear H
                          have p176 : 0 ≤ (x12_1 : Int) := of_decide_eq_true (by first | (with_reducible assumption) | assumption)
                          have q176 : x12_1 < (l0.length : Int) := of_decide_eq_true (by first | (with_reducible assumption) | assumption)
                          obtain ⟨ad176, e176, hx176_0⟩ := Kd.at_int HR0.out x12_1 p176 q176
                          cases e176
                          replace hx176_0 := (HB.out.cell (World.block_lt_of_cell? w _ hx176_0)).trans hx176_0
                          replace p176 := eq_true p176
                          replace q176 := eq_true q176
                          try go_wp2
                          have n0_ := Aside0.mk (Kd.R_drew HO_3.out)
                          have n1_ := Aside0.mk (below_drew1 HB.out)
                          clear HO_3
                          clear HB
                          have HO_3 := n0_
                          have HB := n1_
                          clear n0_ n1_
                          have p13 : 0 ≤ ((ji10) : Int) := of_decide_eq_true (by first | (with_reducible assumption) | assumption)
                          have q13 : (ji10) < (16 : Int) := of_decide_eq_true (by first | (with_reducible assumption) | assumption)
                          have hx13 := bt_at (⟨#[48, 49, 50, 51, 52, 53, 54, 55, 56, 57, 97, 98, 99, 100, 101, 102]⟩ : ByteArray) (ji10)
                          replace p13 := eq_true p13
                          replace q13 := eq_true q13
                          have p16 : 0 ≤ ((Go.bits .and .u8 (rd l0 x12_1) 15) : Int) := of_decide_eq_true (by first | (with_reducible assumption) | assumption)
                          have q16 : (Go.bits .and .u8 (rd l0 x12_1) 15) < (16 : Int) := of_decide_eq_true (by first | (with_reducible assumption) | assumption)
                          have hx16 := bt_at (⟨#[48, 49, 50, 51, 52, 53, 54, 55, 56, 57, 97, 98, 99, 100, 101, 102]⟩ : ByteArray) (Go.bits .and .u8 (rd l0 x12_1) 15)
                          replace p16 := eq_true p16
                          replace q16 := eq_true q16
                          refine start_ (n := 10) (S := fun w' => True) (ds := []) #[false, false, false, false, false, false, false, false, false, false] (by kernel_rfl) rfl rfl trivial (fun hHeld => ?_); refine with_tabW octet_Hex.tab5 octet_Hex.bits5 (fun HT_ HW_ => ?_)
                          generalize wr.drew = w18 at HO_3 HB hHeld ⊢
                          refine pure_ (i := 0) (N := some 16) (v := ?_) (a' := ?_) #[true, false, false, false, false, false, false, false, false, false] rfl rfl (any_of HT_.out (by kernel_rfl)) (fun _ _ _ h => h) (Or.inl ⟨by rfl, ?_⟩) ?_ ?_
                          rotate_left
                          · intro w'
                            go_simp
                            with_reducible rfl
                          rotate_left
                          · simp only [Act.put, List.setIfInBounds_toArray, List.set_cons_zero, List.set_cons_succ, i64_w, i32_w]
                            rfl
                          refine pure_ (i := 1) (N := some 17) (v := ?_) (a' := ?_) #[true, true, false, false, false, false, false, false, false, false] rfl rfl (any_of HT_.out (by kernel_rfl)) (fun _ _ _ h => h) (Or.inl ⟨by rfl, ?_⟩) ?_ ?_
                          rotate_left
                          · intro w'
                            go_simp
                            with_reducible rfl
                          rotate_left
                          · simp only [Act.put, List.setIfInBounds_toArray, List.set_cons_zero, List.set_cons_succ, i64_w, i32_w]
                            rfl
                          refine pure_ (i := 2) (N := some 18) (v := ?_) (a' := ?_) #[true, true, true, false, false, false, false, false, false, false] rfl rfl (any_of HT_.out (by kernel_rfl)) (fun _ _ _ h => h) (Or.inl ⟨by rfl, ?_⟩) ?_ ?_
                          rotate_left
                          · intro w'
                            go_simp
                            with_reducible rfl
                          rotate_left
                          · simp only [Act.put, List.setIfInBounds_toArray, List.set_cons_zero, List.set_cons_succ, i64_w, i32_w]
                            rfl
                          refine pure_ (i := 4) (N := some 20) (v := ?_) (a' := ?_) #[true, true, true, false, true, false, false, false, false, false] rfl rfl (any_of HT_.out (by kernel_rfl)) (fun _ _ _ h => h) (Or.inl ⟨by rfl, ?_⟩) ?_ ?_
                          rotate_left
                          · intro w'
                            go_simp
                            with_reducible rfl
                          rotate_left
                          · simp only [Act.put, List.setIfInBounds_toArray, List.set_cons_zero, List.set_cons_succ, i64_w, i32_w]
                            rfl
                          refine pure_ (i := 5) (N := some 21) (v := ?_) (a' := ?_) #[true, true, true, false, true, true, false, false, false, false] rfl rfl (any_of HT_.out (by kernel_rfl)) (fun _ _ _ h => h) (Or.inl ⟨by rfl, ?_⟩) ?_ ?_
                          rotate_left
                          · intro w'
                            go_simp
                            with_reducible rfl
                          rotate_left
                          · simp only [Act.put, List.setIfInBounds_toArray, List.set_cons_zero, List.set_cons_succ, i64_w, i32_w]
                            rfl
                          refine take_ (i := 3) (N := some 19) (v := ?_) (a' := ?_) #[true, true, true, true, true, true, false, false, false, false] rfl rfl (take_ofW HT_.out HW_.out (by kernel_rfl)) (fun _ _ _ h => h) (Or.inl ⟨by rfl, ?_⟩) hHeld ?_ ?_
                          rotate_left
                          · intro w' _
                            go_simp
                            with_reducible rfl
                          rotate_left
                          · simp only [Act.put, List.setIfInBounds_toArray, List.set_cons_zero, List.set_cons_succ, i64_w, i32_w]
                            rfl
                          refine take_ (i := 6) (N := some 22) (v := ?_) (a' := ?_) #[true, true, true, true, true, true, true, false, false, false] rfl rfl (take_ofW HT_.out HW_.out (by kernel_rfl)) (fun _ _ _ h => h) (Or.inl ⟨by rfl, ?_⟩) hHeld ?_ ?_
                          rotate_left
                          · intro w' _
                            go_simp
                            with_reducible rfl
                          rotate_left
                          · simp only [Act.put, List.setIfInBounds_toArray, List.set_cons_zero, List.set_cons_succ, i64_w, i32_w]
                            rfl
                          refine one_ (i := 7) (N := some 23) #[true, true, true, true, true, true, true, true, false, false] rfl rfl (one_of HT_.out (by kernel_rfl)) (by decide) (fun K hK => ?_)
                          refine Kd.R_lit_step (Kd.int .u8) _ 5 ?hg (N := 23) ?hd (xs := ([bt (⟨#[48, 49, 50, 51, 52, 53, 54, 55, 56, 57, 97, 98, 99, 100, 101, 102]⟩ : ByteArray) (ji10), bt (⟨#[48, 49, 50, 51, 52, 53, 54, 55, 56, 57, 97, 98, 99, 100, 101, 102]⟩ : ByteArray) (Go.bits .and .u8 (rd l0 x12_1) 15)] : List Int)) (inner := [.int .u8 (bt (⟨#[48, 49, 50, 51, 52, 53, 54, 55, 56, 57, 97, 98, 99, 100, 101, 102]⟩ : ByteArray) (ji10)), .int .u8 (bt (⟨#[48, 49, 50, 51, 52, 53, 54, 55, 56, 57, 97, 98, 99, 100, 101, 102]⟩ : ByteArray) (Go.bits .and .u8 (rd l0 x12_1) 15))]) (ok := fun _ => True) (okp := fun _ => True) ?hr ?hp (fun _ hk => hk) trivial (Below.refl _ _) (Nat.le_refl _) (by simp) ?_; (case hd => rfl); (case hg => rfl); (case hr => first | (go_simp; done) | (go_simp; rfl)); (case hp => exact (Reps.one (show Kd.M (Kd.int .u8) _ _ _ (bt (⟨#[48, 49, 50, 51, 52, 53, 54, 55, 56, 57, 97, 98, 99, 100, 101, 102]⟩ : ByteArray) (ji10)) [.int .u8 (bt (⟨#[48, 49, 50, 51, 52, 53, 54, 55, 56, 57, 97, 98, 99, 100, 101, 102]⟩ : ByteArray) (ji10))] from rfl) (Reps.one (show Kd.M (Kd.int .u8) _ _ _ (bt (⟨#[48, 49, 50, 51, 52, 53, 54, 55, 56, 57, 97, 98, 99, 100, 101, 102]⟩ : ByteArray) (Go.bits .and .u8 (rd l0 x12_1) 15)) [.int .u8 (bt (⟨#[48, 49, 50, 51, 52, 53, 54, 55, 56, 57, 97, 98, 99, 100, 101, 102]⟩ : ByteArray) (Go.bits .and .u8 (rd l0 x12_1) 15))] from rfl) (Reps.none _ _))))
                          intro v178 w19 ho20 hb hg_ hnew_
                          clear hg_ hnew_
                          (first | rw [← Ny177.out] at ho20 | (simp only [Int.reduceToNat] at ho20; rw [← Ny177.out] at ho20))
                          have n0_ := Aside0.mk (Kd.R_elder' (by (with_reducible repeat (first | apply Kd.R_alloc | apply Kd.R_drewN | apply Kd.R_drew)); exact HO_3.out) (Kd.R_base ho20) hb)
                          have n1_ := Aside0.mk (Kd.R_lower (Kd.R_new' ho20 (Kd.R_lt (by (with_reducible repeat (first | apply Kd.R_alloc | apply Kd.R_drewN | apply Kd.R_drew)); exact HO_3.out))) (below_size (by repeat (first | (with_reducible first | exact HB.out | apply below_alloc | apply pw_below_drewN | apply below_drew1) | exact HB.out))))
                          have n2_ := Aside0.mk (below_step (by repeat (first | (with_reducible first | exact HB.out | apply below_alloc | apply pw_below_drewN | apply below_drew1) | exact HB.out)) hb)
                          clear HO_3
                          clear HB
                          have HO_3 := n0_
                          have HO179 := n1_
                          have HB := n2_
                          clear n0_ n1_ n2_
                          clear hb ho20
                          obtain ⟨Ao22, co22, eo22⟩ := Kd.R_slice HO179.out
                          (first | subst eo22 | (injection eo22 with f1_ f2_ f3_; have f4_ := f1_.symm; have f5_ := f3_.symm; clear f1_ f2_ f3_; subst f4_; subst f5_))
                          refine hK.out _ _ trivial (fun hHeld => ?_)
                          clear hK K
                          refine norm_ (a' := ?_) ?_ ?_
                          rotate_left
                          · show Act.put _ (some 23) _ = _
                            simp only [Act.put, List.setIfInBounds_toArray, List.set_cons_zero, List.set_cons_succ, i64_w, i32_w]
                            rfl
                          refine one_ (i := 8) (N := some 24) #[true, true, true, true, true, true, true, true, true, false] rfl rfl (one_of HT_.out (by kernel_rfl)) (by decide) (fun K hK => ?_)
                          refine Kd.R_append_rows_step (Kd.int .u8) (w0 := w) w.heap.size (by rfl) (.tmp 16) (.tmp 23) 23 5 (.int .u8 0) 1 rfl Try.underlying23 info5 rfl (by decide) (by omega) u3 x3_1 y177 _ _ _ (fun k_ => some k_ ≠ (.slice Ao22 y177.length co22 : Value).ownBlock) (fun _ => False) rfl rfl ?aO ?aR (fun _ _ h => h) (fun _ h => h.elim) ?aF ?aB ?aS ?aL ?_
                          (case aR => repeat (first | exact (Kd.R_reads' HO179.out).2.2 | (with_reducible refine Kd.C_alloc ?_ _) | (with_reducible refine Kd.C_drewN ?_ _) | (with_reducible refine Kd.C_drew ?_)))
                          (case aB => exact (by repeat (first | (with_reducible first | exact HB.out | apply below_alloc | apply pw_below_drewN | apply below_drew1) | exact HB.out)))
                          (case aF => exact (fun k_ hk => Kd.fresh' (Kd.R_lt (by (with_reducible repeat (first | apply Kd.R_alloc | apply Kd.R_drewN | apply Kd.R_drew)); exact HO179.out)) k_ hk))
                          (case aO => exact (by (with_reducible repeat (first | apply Kd.R_alloc | apply Kd.R_drewN | apply Kd.R_drew)); exact Kd.R_mono HO_3.out (fun _ hk => hk.2)))
                          (case aS => exact (below_size (by repeat (first | (with_reducible first | exact HB.out | apply below_alloc | apply pw_below_drewN | apply below_drew1) | exact HB.out))))
                          (case aL => have := LMc17.out; omega)
                          intro v181 w21 ho hb hg hat
                          rw [← Ny180.out] at ho
                          have n0_ := Aside0.mk (Kd.R_after (ok := (fun _ => True)) (by (with_reducible repeat (first | apply Kd.R_alloc | apply Kd.R_drewN | apply Kd.R_drew)); exact HO179.out) hg hat)
                          have n1_ := Aside0.mk (hb)
                          have n2_ := Aside0.mk (ho)
                          clear HO179
                          clear HB
                          clear HO_3
                          have HO179 := n0_
                          have HB := n1_
                          have HO182 := n2_
                          clear n0_ n1_ n2_
                          clear ho hb hg hat
                          refine hK.out _ _ trivial (fun hHeld => ?_)
                          clear hK K
                          refine norm_ (a' := ?_) ?_ ?_
                          rotate_left
                          · show Act.put _ (some 24) _ = _
                            simp only [Act.put, List.setIfInBounds_toArray, List.set_cons_zero, List.set_cons_succ, i64_w, i32_w]
                            rfl
                          refine pure_ (i := 9) (N := some 3) (v := ?_) (a' := ?_) #[true, true, true, true, true, true, true, true, true, true] rfl rfl (any_of HT_.out (by kernel_rfl)) (fun _ _ _ h => h) (Or.inl ⟨by rfl, ?_⟩) ?_ ?_
                          rotate_left
                          · intro w'
                            go_simp
                            with_reducible rfl
                          rotate_left
                          · simp only [Act.put, List.setIfInBounds_toArray, List.set_cons_zero, List.set_cons_succ, i64_w, i32_w]
                            rfl
                          refine done_ (done_of HT_.out (by kernel_rfl)) ?_
                          try go_wp2
                          go_roundg k1
                          case measure => have := HK1.out; omega
                          case rel => exact ⟨(y180), (wrap64 (x12_1 + 1)), (by first | rfl | (simp; done) | (simp [*]; done)), H', ⟨by have := HK1.out; omega⟩, ⟨by (with_reducible repeat (first | apply Kd.R_alloc | apply Kd.R_drewN | apply Kd.R_drew)); exact Kd.R_mono HO182.out (fun _ hk => trivial)⟩, ⟨by repeat (first | (with_reducible first | exact HB.out | apply below_alloc | apply pw_below_drewN | apply below_drew1) | exact HB.out)⟩⟩
                        · rw [if_neg c17] at H
                          exact absurd H (by simp)
                      · rw [if_neg c15] at H
                        exact absurd H (by simp)
                    · rw [if_neg c14] at H
                      exact absurd H (by simp)
                  · rw [if_neg c12] at H
                    exact absurd H (by simp)
                · rw [if_neg c11] at H
                  exact absurd H (by simp)
              · rw [if_neg c9] at H
                exact absurd H (by simp)
            · rw [if_neg c8] at H
              exact absurd H (by simp)
          · rw [if_neg c7] at H
            have c7b0 : decide (x12_1 < (l0.length : Int)) = false := decide_eq_false c7
            clear c7
            obtain rfl := Option.some.inj H
            have hcv23 := own_string (P := Try.prog) Try.underlying23 Try.underlying5 Try.underlying9 (Kd.own_of_R HO_3.out)
            go_wp2
            go_ret
            exact ⟨by first | rfl | (simp [errW_none, errW_some] <;> rfl) | (simp only [← hji2]; first | rfl | (simp [errW_none, errW_some] <;> rfl)) | (simp [*, errW_none, errW_some] <;> rfl), by repeat (first | (with_reducible first | exact HB.out | apply below_alloc | apply pw_below_drewN | apply below_drew1) | exact HB.out)⟩
    · rw [if_neg c4] at H
      exact absurd H (by simp)
  · rw [if_neg c3] at H
    exact absurd H (by simp)

-- NOT PRINTED: function 6 (plumblaw17_alive)

-- NOT PRINTED: function 10 (wkb_Orders)


end Go.Proofs.Ytiiolhnpnlmkjaa.PMk
