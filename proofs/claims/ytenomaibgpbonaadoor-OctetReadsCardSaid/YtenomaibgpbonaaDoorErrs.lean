/- api.Code, api.Place, api.Wrap and the law's sameErr by contracts, over errors.As. No conditions but those told of the cells. -/
import Derived.Test.YtenomaibgpbonaaDoorAsCode
import Derived.BigQuiet
import Derived.Test.YtenomaibgpbonaaDoorWMore
namespace Go.Proofs.YtenomaibgpbonaaDoor
open Go.RowKit Go.Extern.Stop Go.Stop Go.Extern Go.Proofs.YtenomaibgpbonaaDoorW.PrintWords
def Handle (w : World) : Prop := w.cell? ⟨0, 0, none⟩ = some (.iface 98 (.agg #[.pointer (some ⟨1, 38, none⟩)]))
theorem cell5 {w : World} {a : Addr} {v : Value} (h : w.cell? a = some v) (o1 o2 o3 o4 o5 : Obj) : (((((w.alloc o1).alloc o2).alloc o3).alloc o4).alloc o5).cell? a = some v := by
  have hl := World.block_lt_of_cell? w a h
  rw [World.cell?_alloc_lt _ _ a (by simp; omega), World.cell?_alloc_lt _ _ a (by simp; omega), World.cell?_alloc_lt _ _ a (by simp; omega), World.cell?_alloc_lt _ _ a (by simp; omega), World.cell?_alloc_lt _ _ a hl]; exact h
theorem cell_lt {w : World} {a : Addr} {v : Value} (h : w.cell? a = some v) : a.block < w.heap.size := World.block_lt_of_cell? w a h
set_option maxHeartbeats 4000000 in
set_option maxRecDepth 100000 in
theorem code_calls (g : Nat) (c : Int) (w : World) (hg : Handle w) (he : w.cell? ⟨g, 1, none⟩ = some (.iface 65 (.int .i64 c))) :
    Calls Tryd.prog 30 #[.iface 78 (.pointer (some ⟨g, 0, none⟩))] w fun e w' => e = .returned (.int .i64 c) ∧ Below w.heap.size w w' := by
  have hgA : (w.alloc (.cells #[.int .i64 0] 65)).cell? ⟨0, 0, none⟩ = some (.iface 98 (.agg #[.pointer (some ⟨1, 38, none⟩)])) := by
    rw [World.cell?_alloc_lt _ _ ⟨0, 0, none⟩ (cell_lt hg)]; exact hg
  have heA : (w.alloc (.cells #[.int .i64 0] 65)).cell? ⟨g, 1, none⟩ = some (.iface 65 (.int .i64 c)) := by
    rw [World.cell?_alloc_lt _ _ ⟨g, 1, none⟩ (cell_lt he)]; exact he
  have htA : (w.alloc (.cells #[.int .i64 0] 65)).cell? ⟨w.heap.size, 0, none⟩ = some (.int .i64 0) := by simp
  have hfA : (w.alloc (.cells #[.int .i64 0] 65)).frozen? ⟨w.heap.size, 0, none⟩ = false := by simp
  go_enter Tryd.func30, Tryd.ntmps30
  go_wp2_with fail
  refine (as_code g ⟨w.heap.size, 0, none⟩ c (.int .i64 0) _ hgA heA htA hfA).mono ?_
  rintro e w' ⟨rfl, rfl⟩
  go_wp2_with fail
  go_ret
  exact ⟨rfl, by repeat (first | exact Below.refl _ _ | apply below_alloc)⟩
set_option maxHeartbeats 4000000 in
set_option maxRecDepth 100000 in
theorem place_calls (g : Nat) (p : Int) (w : World) (hg : Handle w) (he : w.cell? ⟨g, 0, none⟩ = some (.int .i64 p)) :
    Calls Tryd.prog 31 #[.iface 78 (.pointer (some ⟨g, 0, none⟩))] w fun e w' => e = .returned (.int .i64 p) ∧ Below w.heap.size w w' := by
  have hgA : (w.alloc (.cells #[.pointer none] 78)).cell? ⟨0, 0, none⟩ = some (.iface 98 (.agg #[.pointer (some ⟨1, 38, none⟩)])) := by
    rw [World.cell?_alloc_lt _ _ ⟨0, 0, none⟩ (cell_lt hg)]; exact hg
  have htA : (w.alloc (.cells #[.pointer none] 78)).cell? ⟨w.heap.size, 0, none⟩ = some (.pointer none) := by simp
  have hfA : (w.alloc (.cells #[.pointer none] 78)).frozen? ⟨w.heap.size, 0, none⟩ = false := by simp
  have he5 := fun o1 o2 o3 o4 o5 => cell5 he o1 o2 o3 o4 o5
  go_enter Tryd.func31, Tryd.ntmps31
  go_wp2_with fail
  refine (as_hit ⟨g, 0, none⟩ ⟨w.heap.size, 0, none⟩ (.pointer none) _ hgA htA hfA).mono ?_
  rintro e w' ⟨rfl, rfl⟩
  go_wp2_with fail
  go_ret
  exact ⟨rfl, by repeat (first | exact Below.refl _ _ | apply below_alloc)⟩
/-- An error that is nil, or a new api.Fault: its place by 1024, its number the rest. -/
def EV (w : World) (v : Value) : Option Int → Prop
  | none => v = .nilIface
  | some x => ∃ g, v = .iface 78 (.pointer (some ⟨g, 0, none⟩)) ∧ w.cell? ⟨g, 0, none⟩ = some (.int .i64 (x / 1024)) ∧ w.cell? ⟨g, 1, none⟩ = some (.iface 65 (.int .i64 (x % 1024)))
theorem EV_none (w : World) : EV w .nilIface none := rfl
theorem EV_below {w w1 : World} {v : Value} {x : Option Int} (h : EV w v x) (hb : Below w.heap.size w w1) : EV w1 v x := by
  cases x with
  | none => exact h
  | some x =>
    obtain ⟨g, e, h0, h1⟩ := h
    exact ⟨g, e, (hb.cell (World.block_lt_of_cell? w _ h0)).trans h0, (hb.cell (World.block_lt_of_cell? w _ h1)).trans h1⟩
theorem EV_alloc {w : World} {v : Value} {x : Option Int} (h : EV w v x) (o : Obj) : EV (w.alloc o) v x := EV_below h (below_alloc (Below.refl _ _) o)
theorem EV_drewN {w : World} {v : Value} {x : Option Int} (h : EV w v x) (m : Nat) : EV (w.drewN m) v x := EV_below h (pw_below_drewN (Below.refl _ _) m)
theorem EV_drew {w : World} {v : Value} {x : Option Int} (h : EV w v x) : EV w.drew v x := EV_below h (below_drew (Below.refl _ _))
theorem Handle_below {w w1 : World} (h : Handle w) (hb : Below w.heap.size w w1) : Handle w1 := (hb.cell (World.block_lt_of_cell? w _ h)).trans h
theorem wrap_calls (a c : Int) (w : World) (hc : 0 ≤ c ∧ c < 1024) :
    Calls Tryd.prog 32 #[.int .i64 a, .int .i64 c] w fun e w' => ∃ v, e = .returned v ∧ EV w' v (some (a * 1024 + c)) ∧ Below w.heap.size w w' := by
  go_enter Tryd.func32, Tryd.ntmps32
  go_wp2_with fail
  go_ret
  refine ⟨_, rfl, ⟨_, rfl, ?_, ?_⟩, by repeat (first | exact Below.refl _ _ | apply below_alloc)⟩
  · rw [show (a * 1024 + c) / 1024 = a from by omega]; simp
  · rw [show (a * 1024 + c) % 1024 = c from by omega]; simp
def sameV (x : Option Int) (code at_ : Int) : Bool := if code = 0 then x.isNone else match x with
  | none => false
  | some y => decide (y % 1024 = code) && decide (y / 1024 = at_)
set_option maxHeartbeats 4000000 in
set_option maxRecDepth 100000 in
theorem same_calls (v : Value) (x : Option Int) (code at_ : Int) (w : World) (hg : Handle w) (hv : EV w v x) :
    Calls Tryd.prog 15 #[v, .int .i64 code, .int .i64 at_] w fun e w' => e = .returned (.bool (sameV x code at_)) ∧ Below w.heap.size w w' := by
  unfold sameV
  cases x with
  | none =>
    obtain rfl : v = .nilIface := hv
    by_cases hc : code = 0
    · rw [if_pos hc]
      subst hc
      go_enter Tryd.func15, Tryd.ntmps15
      go_wp2_with fail
      go_ret
      exact ⟨rfl, Below.refl _ _⟩
    · rw [if_neg hc]
      have q : (code == 0) = false := beq_eq_false_iff_ne.mpr hc
      go_enter Tryd.func15, Tryd.ntmps15
      go_wp2_with fail
      go_ret
      exact ⟨rfl, Below.refl _ _⟩
  | some x =>
    obtain ⟨g, rfl, h0, h1⟩ := hv
    by_cases hc : code = 0
    · rw [if_pos hc]
      subst hc
      go_enter Tryd.func15, Tryd.ntmps15
      go_wp2_with fail
      go_ret
      exact ⟨rfl, Below.refl _ _⟩
    · rw [if_neg hc]
      have q : (code == 0) = false := beq_eq_false_iff_ne.mpr hc
      obtain ⟨c, hcc⟩ : ∃ c, x % 1024 = c := ⟨_, rfl⟩
      obtain ⟨p, hpp⟩ : ∃ p, x / 1024 = p := ⟨_, rfl⟩
      show Calls Tryd.prog 15 #[.iface 78 (.pointer (some ⟨g, 0, none⟩)), .int .i64 code, .int .i64 at_] w fun e w' => e = .returned (.bool (decide (x % 1024 = code) && decide (x / 1024 = at_))) ∧ Below w.heap.size w w'
      rw [hcc] at h1 ⊢
      rw [hpp] at h0 ⊢
      by_cases c1 : c = code
      · have q1 : (c == code) = true := beq_iff_eq.mpr c1
        by_cases c2 : p = at_
        · have q2 : (p == at_) = true := beq_iff_eq.mpr c2
          go_enter Tryd.func15, Tryd.ntmps15
          go_wp2_with fail
          refine (code_calls g c w hg h1).mono ?_
          rintro e w1 ⟨rfl, hb⟩
          go_wp2_with fail
          refine (place_calls g p w1 (Handle_below hg hb) ((hb.cell (World.block_lt_of_cell? w _ h0)).trans h0)).mono ?_
          rintro e w2 ⟨rfl, hb2⟩
          go_wp2_with fail
          go_ret
          exact ⟨by simp [c1, c2], below_then hb hb.size hb2⟩
        · have q2 : (p == at_) = false := beq_eq_false_iff_ne.mpr c2
          go_enter Tryd.func15, Tryd.ntmps15
          go_wp2_with fail
          refine (code_calls g c w hg h1).mono ?_
          rintro e w1 ⟨rfl, hb⟩
          go_wp2_with fail
          refine (place_calls g p w1 (Handle_below hg hb) ((hb.cell (World.block_lt_of_cell? w _ h0)).trans h0)).mono ?_
          rintro e w2 ⟨rfl, hb2⟩
          go_wp2_with fail
          go_ret
          exact ⟨by simp [c2], below_then hb hb.size hb2⟩
      · have q1 : (c == code) = false := beq_eq_false_iff_ne.mpr c1
        go_enter Tryd.func15, Tryd.ntmps15
        go_wp2_with fail
        refine (code_calls g c w hg h1).mono ?_
        rintro e w1 ⟨rfl, hb⟩
        go_wp2_with fail
        go_ret
        exact ⟨by simp [c1], hb⟩
end Go.Proofs.YtenomaibgpbonaaDoor
