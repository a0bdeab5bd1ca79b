/- api.Code, api.Place and the laws' is by contracts, over errors.As. No conditions but those told of the cells. -/
import Derived.Test.YtmcbniobbbjdjaaDoorTAsCode
import Derived.BigQuiet
import Derived.Test.YtmcbniobbbjdjaaDoorTRCheck
namespace Go.Proofs.YtmcbniobbbjdjaaDoor.Tree
open Go.Proofs.YtmcbniobbbjdjaaDoor
open Go.RowKit Go.Extern.Stop Go.Stop Go.Extern Go.Proofs.YtmcbniobbbjdjaaDoorW.PrintWords
def Handle (w : World) : Prop := w.cell? ⟨0, 0, none⟩ = some (.iface 116 (.agg #[.pointer (some ⟨1, 33, none⟩)]))
theorem cell5 {w : World} {a : Addr} {v : Value} (h : w.cell? a = some v) (o1 o2 o3 o4 o5 : Obj) : (((((w.alloc o1).alloc o2).alloc o3).alloc o4).alloc o5).cell? a = some v := by
  have hl := World.block_lt_of_cell? w a h
  rw [World.cell?_alloc_lt _ _ a (by simp; omega), World.cell?_alloc_lt _ _ a (by simp; omega), World.cell?_alloc_lt _ _ a (by simp; omega), World.cell?_alloc_lt _ _ a (by simp; omega), World.cell?_alloc_lt _ _ a hl]; exact h
theorem cell_lt {w : World} {a : Addr} {v : Value} (h : w.cell? a = some v) : a.block < w.heap.size := World.block_lt_of_cell? w a h
set_option maxHeartbeats 4000000 in
set_option maxRecDepth 100000 in
theorem code_calls (g : Nat) (c : Int) (w : World) (hg : Handle w) (he : w.cell? ⟨g, 1, none⟩ = some (.iface 49 (.int .i64 c))) :
    Calls Tryd.prog 21 #[.iface 89 (.pointer (some ⟨g, 0, none⟩))] w fun e w' => e = .returned (.int .i64 c) ∧ Below w.heap.size w w' := by
  have hgA : (w.alloc (.cells #[.int .i64 0] 49)).cell? ⟨0, 0, none⟩ = some (.iface 116 (.agg #[.pointer (some ⟨1, 33, none⟩)])) := by
    rw [World.cell?_alloc_lt _ _ ⟨0, 0, none⟩ (cell_lt hg)]; exact hg
  have heA : (w.alloc (.cells #[.int .i64 0] 49)).cell? ⟨g, 1, none⟩ = some (.iface 49 (.int .i64 c)) := by
    rw [World.cell?_alloc_lt _ _ ⟨g, 1, none⟩ (cell_lt he)]; exact he
  have htA : (w.alloc (.cells #[.int .i64 0] 49)).cell? ⟨w.heap.size, 0, none⟩ = some (.int .i64 0) := by simp
  have hfA : (w.alloc (.cells #[.int .i64 0] 49)).frozen? ⟨w.heap.size, 0, none⟩ = false := by simp
  go_enter Tryd.func21, Tryd.ntmps21
  go_wp2_with fail
  refine (as_code g ⟨w.heap.size, 0, none⟩ c (.int .i64 0) _ hgA heA htA hfA).mono ?_
  rintro e w' ⟨rfl, rfl⟩
  go_wp2_with fail
  go_ret
  exact ⟨rfl, by repeat (first | exact Below.refl _ _ | apply below_alloc)⟩
set_option maxHeartbeats 4000000 in
set_option maxRecDepth 100000 in
theorem place_calls (g : Nat) (p : Int) (w : World) (hg : Handle w) (he : w.cell? ⟨g, 0, none⟩ = some (.int .i64 p)) :
    Calls Tryd.prog 22 #[.iface 89 (.pointer (some ⟨g, 0, none⟩))] w fun e w' => e = .returned (.int .i64 p) ∧ Below w.heap.size w w' := by
  have hgA : (w.alloc (.cells #[.pointer none] 89)).cell? ⟨0, 0, none⟩ = some (.iface 116 (.agg #[.pointer (some ⟨1, 33, none⟩)])) := by
    rw [World.cell?_alloc_lt _ _ ⟨0, 0, none⟩ (cell_lt hg)]; exact hg
  have htA : (w.alloc (.cells #[.pointer none] 89)).cell? ⟨w.heap.size, 0, none⟩ = some (.pointer none) := by simp
  have hfA : (w.alloc (.cells #[.pointer none] 89)).frozen? ⟨w.heap.size, 0, none⟩ = false := by simp
  have he5 := fun o1 o2 o3 o4 o5 => cell5 he o1 o2 o3 o4 o5
  go_enter Tryd.func22, Tryd.ntmps22
  go_wp2_with fail
  refine (as_hit ⟨g, 0, none⟩ ⟨w.heap.size, 0, none⟩ (.pointer none) _ hgA htA hfA).mono ?_
  rintro e w' ⟨rfl, rfl⟩
  go_wp2_with fail
  go_ret
  exact ⟨rfl, by repeat (first | exact Below.refl _ _ | apply below_alloc)⟩
theorem Handle_below {w w1 : World} (h : Handle w) (hb : Below w.heap.size w w1) : Handle w1 := (hb.cell (World.block_lt_of_cell? w _ h)).trans h
set_option maxHeartbeats 4000000 in
set_option maxRecDepth 100000 in
theorem code_nil (w : World) : Calls Tryd.prog 21 #[.nilIface] w fun e w' => e = .returned (.int .i64 0) ∧ Below w.heap.size w w' := by
  go_enter Tryd.func21, Tryd.ntmps21
  go_wp2_with fail
  go_ret
  exact ⟨rfl, by repeat (first | exact Below.refl _ _ | apply below_alloc)⟩
set_option maxHeartbeats 4000000 in
set_option maxRecDepth 100000 in
theorem place_nil (w : World) : Calls Tryd.prog 22 #[.nilIface] w fun e w' => e = .returned (.int .i64 (-1)) ∧ Below w.heap.size w w' := by
  go_enter Tryd.func22, Tryd.ntmps22
  go_wp2_with fail
  refine (as_nil _ _).mono ?_
  rintro e w' ⟨rfl, rfl⟩
  go_wp2_with fail
  go_ret
  exact ⟨rfl, by repeat (first | exact Below.refl _ _ | apply below_alloc)⟩
theorem Code_calls (v : Value) (x : Option (Int × Int)) (w : World) (hg : Handle w) (hv : ErrV w v x) :
    Calls Tryd.prog 21 #[v] w fun e w' => e = .returned (.int .i64 (codeOf x)) ∧ Below w.heap.size w w' := by
  cases x with
  | none => obtain rfl : v = .nilIface := hv; exact code_nil w
  | some x =>
    obtain ⟨g, rfl, h⟩ := hv
    exact code_calls g x.2 w hg ((blk_cell h 1).trans rfl)
theorem Place_calls (v : Value) (x : Option (Int × Int)) (w : World) (hg : Handle w) (hv : ErrV w v x) :
    Calls Tryd.prog 22 #[v] w fun e w' => e = .returned (.int .i64 (placeOf x)) ∧ Below w.heap.size w w' := by
  cases x with
  | none => obtain rfl : v = .nilIface := hv; exact place_nil w
  | some x =>
    obtain ⟨g, rfl, h⟩ := hv
    exact place_calls g x.1 w hg ((blk_cell h 0).trans rfl)
def isB (x : Option (Int × Int)) (code at_ : Int) : Bool := decide (codeOf x = code) && decide (placeOf x = at_)
set_option maxHeartbeats 4000000 in
set_option maxRecDepth 100000 in
theorem is_calls (v : Value) (x : Option (Int × Int)) (code at_ : Int) (w : World) (hg : Handle w) (hv : ErrV w v x) :
    Calls Tryd.prog 10 #[v, .int .i64 code, .int .i64 at_] w fun e w' => e = .returned (.bool (isB x code at_)) ∧ Below w.heap.size w w' := by
  have HG := Aside0.mk hg
  have HV := Aside0.mk hv
  clear hg hv
  unfold isB
  obtain ⟨c, hc⟩ : ∃ c, c = codeOf x := ⟨_, rfl⟩
  obtain ⟨p, hp⟩ : ∃ p, p = placeOf x := ⟨_, rfl⟩
  have HCC := Aside0.mk hc
  have HPP := Aside0.mk hp
  rw [← hc, ← hp]
  clear hc hp
  by_cases c1 : c = code
  · have q1 : (c == code) = true := beq_iff_eq.mpr c1
    by_cases c2 : p = at_
    · have q2 : (p == at_) = true := beq_iff_eq.mpr c2
      go_enter Tryd.func10, Tryd.ntmps10
      go_wp2_with fail
      refine (Code_calls v x w HG.out HV.out).mono ?_
      rintro e w1 ⟨rfl, hb⟩
      rw [← HCC.out]
      go_wp2_with fail
      refine (Place_calls v x w1 (Handle_below HG.out hb) (HV.out.below hb)).mono ?_
      rintro e w2 ⟨rfl, hb2⟩
      rw [← HPP.out]
      go_wp2_with fail
      go_ret
      exact ⟨by simp [c1, c2], below_step hb hb2⟩
    · have q2 : (p == at_) = false := beq_eq_false_iff_ne.mpr c2
      go_enter Tryd.func10, Tryd.ntmps10
      go_wp2_with fail
      refine (Code_calls v x w HG.out HV.out).mono ?_
      rintro e w1 ⟨rfl, hb⟩
      rw [← HCC.out]
      go_wp2_with fail
      refine (Place_calls v x w1 (Handle_below HG.out hb) (HV.out.below hb)).mono ?_
      rintro e w2 ⟨rfl, hb2⟩
      rw [← HPP.out]
      go_wp2_with fail
      go_ret
      exact ⟨by simp [c2], below_step hb hb2⟩
  · have q1 : (c == code) = false := beq_eq_false_iff_ne.mpr c1
    go_enter Tryd.func10, Tryd.ntmps10
    go_wp2_with fail
    refine (Code_calls v x w HG.out HV.out).mono ?_
    rintro e w1 ⟨rfl, hb⟩
    rw [← HCC.out]
    go_wp2_with fail
    go_ret
    exact ⟨by simp [c1], hb⟩
end Go.Proofs.YtmcbniobbbjdjaaDoor.Tree
