/- Texts of this claim laid one behind the other (TParsed; TNum): what each proves stands at its own names; the last one is the claim's. No conditions but those told. -/
import Derived.Test.YtiiolhnpnlmkjaaDoorZCne
import Derived.Recover
import Derived.Test.YtiiolhnpnlmkjaaDoorMath
namespace Go.Proofs.YtiiolhnpnlmkjaaDoor.Tree
open Go.RowKit Go.Proofs.YtiiolhnpnlmkjaaDoor.PWkbPrints Go.Proofs.YtiiolhnpnlmkjaaDoorW.PrintWords Go.Proofs.YtiiolhnpnlmkjaaDoorW.PrintLast Go.Proofs.YtiiolhnpnlmkjaaDoorW.PrintMore Go.Proofs.YtiiolhnpnlmkjaaDoor.Rdr
attribute [local go_sem] Oper.semAt_some max2_int max_two min2_int min_two
def noGe : Value := .agg #[.int .i64 0, .slice none 0 0, .slice none 0 0, .slice none 0 0]
/-- What the cells of parsed's results hold. -/
structure Rc (W : World) (g0 : Nat) (c : Array Value) (s ev : Value) : Prop where
  a : W.heap[g0]? = some (.cells c 28 (0, 0))
  b : W.heap[g0 + 1]? = some (.cells #[s] 37 (0, 0))
  c : W.heap[g0 + 2]? = some (.cells #[ev] 32 (0, 0))
theorem Rc.below {W W' : World} {g0 : Nat} {c : Array Value} {s ev : Value} (h : Rc W g0 c s ev) (hb : Below W.heap.size W W') : Rc W' g0 c s ev := ⟨blk_below h.a hb, blk_below h.b hb, blk_below h.c hb⟩
theorem ErrV.farT {w : World} {v u : Value} {x : Option (Int × Int)} (h : ErrV w v x) {b j t : Nat} {cs : Array Value} (hk : w.heap[b]? = some (.cells cs t (0, 0))) (ht : 113 ≠ t) : ErrV (w.setCell ⟨b, j, none⟩ u) v x := by
  rcases x with _ | ⟨a, c⟩
  · exact h
  · obtain ⟨g, e, h⟩ := h
    exact ⟨g, e, blk_far h (p := ⟨b, j, none⟩) (blk_ne h hk ht) _⟩
/-- The six cells of the results are written. -/
def stored (w : World) (g0 : Nat) (u0 u1 u2 u3 su eu : Value) : World := (((((w.setCell ⟨g0, 0, none⟩ u0).setCell ⟨g0, 1, none⟩ u1).setCell ⟨g0, 2, none⟩ u2).setCell ⟨g0, 3, none⟩ u3).setCell ⟨g0 + 1, 0, none⟩ su).setCell ⟨g0 + 2, 0, none⟩ eu
theorem stored_far (w : World) (g0 : Nat) (u0 u1 u2 u3 su eu : Value) (k : Nat) (h : g0 + 2 < k) : (stored w g0 u0 u1 u2 u3 su eu).heap[k]? = w.heap[k]? :=
  (Below.heap_setCell _ ⟨g0 + 2, 0, none⟩ _ k (by show k ≠ g0 + 2; omega)).trans ((Below.heap_setCell _ ⟨g0 + 1, 0, none⟩ _ k (by show k ≠ g0 + 1; omega)).trans ((Below.heap_setCell _ ⟨g0, 3, none⟩ _ k (by show k ≠ g0; omega)).trans ((Below.heap_setCell _ ⟨g0, 2, none⟩ _ k (by show k ≠ g0; omega)).trans ((Below.heap_setCell _ ⟨g0, 1, none⟩ _ k (by show k ≠ g0; omega)).trans (Below.heap_setCell _ ⟨g0, 0, none⟩ _ k (by show k ≠ g0; omega))))))
theorem Rc.store {w : World} {g0 : Nat} {q0 q1 q2 q3 s ev : Value} (h : Rc w g0 #[q0, q1, q2, q3] s ev) (u0 u1 u2 u3 su eu : Value) :
    Rc (stored w g0 u0 u1 u2 u3 su eu) g0 #[u0, u1, u2, u3] su eu ∧ Below g0 w (stored w g0 u0 u1 u2 u3 su eu) ∧ ∀ v x, ErrV w v x → ErrV (stored w g0 u0 u1 u2 u3 su eu) v x := by
  have a1 := blk_set (blk_set (blk_set (blk_set h.a 0 u0) 1 u1) 2 u2) 3 u3
  have b1 := blk_far (blk_far (blk_far (blk_far h.b (p := ⟨g0, 0, none⟩) (by show g0 + 1 ≠ g0; omega) u0) (p := ⟨g0, 1, none⟩) (by show g0 + 1 ≠ g0; omega) u1) (p := ⟨g0, 2, none⟩) (by show g0 + 1 ≠ g0; omega) u2) (p := ⟨g0, 3, none⟩) (by show g0 + 1 ≠ g0; omega) u3
  have c1 := blk_far (blk_far (blk_far (blk_far h.c (p := ⟨g0, 0, none⟩) (by show g0 + 2 ≠ g0; omega) u0) (p := ⟨g0, 1, none⟩) (by show g0 + 2 ≠ g0; omega) u1) (p := ⟨g0, 2, none⟩) (by show g0 + 2 ≠ g0; omega) u2) (p := ⟨g0, 3, none⟩) (by show g0 + 2 ≠ g0; omega) u3
  refine ⟨⟨?_, ?_, ?_⟩, ?_, ?_⟩
  · have h9 := blk_far (blk_far a1 (p := ⟨g0 + 1, 0, none⟩) (by show g0 ≠ g0 + 1; omega) su) (p := ⟨g0 + 2, 0, none⟩) (by show g0 ≠ g0 + 2; omega) eu
    exact h9
  · exact blk_far (blk_set b1 0 su) (p := ⟨g0 + 2, 0, none⟩) (by show g0 + 1 ≠ g0 + 2; omega) eu
  · exact blk_set (blk_far c1 (p := ⟨g0 + 1, 0, none⟩) (by show g0 + 2 ≠ g0 + 1; omega) su) 0 eu
  · exact ((((((Below.refl g0 w).setCell (p := ⟨g0, 0, none⟩) (Nat.le_refl _) _).setCell (p := ⟨g0, 1, none⟩) (Nat.le_refl _) _).setCell (p := ⟨g0, 2, none⟩) (Nat.le_refl _) _).setCell (p := ⟨g0, 3, none⟩) (Nat.le_refl _) _).setCell (p := ⟨g0 + 1, 0, none⟩) (by show g0 ≤ g0 + 1; omega) _).setCell (p := ⟨g0 + 2, 0, none⟩) (by show g0 ≤ g0 + 2; omega) _
  · intro v x hv
    have v1 := ErrV.farT hv (j := 0) (u := u0) h.a (by decide)
    have v2 := ErrV.farT v1 (j := 1) (u := u1) (blk_set h.a 0 u0) (by decide)
    have v3 := ErrV.farT v2 (j := 2) (u := u2) (blk_set (blk_set h.a 0 u0) 1 u1) (by decide)
    have v4 := ErrV.farT v3 (j := 3) (u := u3) (blk_set (blk_set (blk_set h.a 0 u0) 1 u1) 2 u2) (by decide)
    have v5 := ErrV.farT v4 (j := 0) (u := su) b1 (by decide)
    exact ErrV.farT v5 (j := 0) (u := eu) (blk_far c1 (p := ⟨g0 + 1, 0, none⟩) (by show g0 + 2 ≠ g0 + 1; omega) su) (by decide)
theorem early_as (v : Value) (w : World) : (Instr.typeAssert (.iface 127 v) 20 127 true).run Tryd.prog w = .ok (.tuple #[v, .bool true]) w := by kernel_rfl
set_option maxRecDepth 100000 in
set_option maxHeartbeats 8000000 in
theorem catch_panicking (W : World) (g0 : Nat) (x : Int × Int) (q0 q1 q2 q3 s ev : Value) (h : Rc W g0 #[q0, q1, q2, q3] s ev) :
    CallsD Tryd.prog 57 #[.pointer (some ⟨g0, 0, none⟩), .pointer (some ⟨g0 + 1, 0, none⟩), .pointer (some ⟨g0 + 2, 0, none⟩)] (.panicking (early x.1 x.2)) W fun e u' w' =>
      e = .returned (.tuple #[]) ∧ u' = .panicking [{ v := .iface 127 (.agg #[.int .i64 x.1, .int .i64 x.2]), recovered := true }] ∧ ∃ ve, Rc w' g0 #[.int .i64 0, .slice none 0 0, .slice none 0 0, .slice none 0 0] (.slice none 0 0) ve ∧ ErrV w' ve (some x) ∧ Below g0 W w' := by
  have hu := Tryd.underlying28
  have hue := Tryd.underlying127
  have has := early_as
  refine callsD_of_wpS Tryd.func57 rfl fun c₀ cs hu => ?_
  apply wpS_seq
  apply wpS_region
  simp [wpOpsS, go_sem, recoverD, hu, early, Tryd.ntmps57, Exit.thenS]
  refine wpS_of_wp ?_
  simp only [Array.replicate, List.replicate, List.setIfInBounds_toArray, List.set_cons_zero, List.set_cons_succ, List.append_toArray, List.cons_append, List.nil_append]
  go_wp2_with fail
  have hba : Below W.heap.size W (W.alloc (.cells #[.int .i64 x.1, .int .i64 x.2] 127)) := below_alloc (Below.refl _ _) _
  refine (wrap_calls x.1 x.2 _).mono ?_
  rintro e w1 ⟨ve, rfl, hev, hb1⟩
  have hb := below_step hba hb1
  have k1 := h.below hb
  have hlt := blk_lt h.a
  obtain ⟨gf, e9, hf⟩ := id hev
  subst e9
  have HEV := Aside0.mk (And.intro hev (And.intro hb hlt))
  have r0 : w1.cell? ⟨g0, 0, none⟩ = some q0 := (blk_cell k1.a 0).trans rfl
  have t0 := blk_frozen k1.a 0
  have r1 : w1.cell? ⟨g0, 1, none⟩ = some q1 := (blk_cell k1.a 1).trans rfl
  have t1 := blk_frozen k1.a 1
  have r2 : w1.cell? ⟨g0, 2, none⟩ = some q2 := (blk_cell k1.a 2).trans rfl
  have t2 := blk_frozen k1.a 2
  have r3 : w1.cell? ⟨g0, 3, none⟩ = some q3 := (blk_cell k1.a 3).trans rfl
  have t3 := blk_frozen k1.a 3
  have r4 : w1.cell? ⟨g0 + 1, 0, none⟩ = some s := (blk_cell k1.b 0).trans rfl
  have t4 := blk_frozen k1.b 0
  have r5 : w1.cell? ⟨g0 + 2, 0, none⟩ = some ev := (blk_cell k1.c 0).trans rfl
  have t5 := blk_frozen k1.c 0
  have K1 := Aside0.mk k1
  clear hf hba hev hb1 hb k1 h hlt
  go_wp2_with fail
  have hs := K1.out.store (.int .i64 0) (.slice none 0 0) (.slice none 0 0) (.slice none 0 0) (.slice none 0 0) (.iface 109 (.pointer (some ⟨gf, 0, none⟩)))
  obtain ⟨hlt, hb1, hev⟩ : g0 < W.heap.size ∧ Below W.heap.size W w1 ∧ ErrV w1 (.iface 109 (.pointer (some ⟨gf, 0, none⟩))) (some (x.1, x.2)) := ⟨HEV.out.2.2, HEV.out.2.1, HEV.out.1⟩
  simp [bodyPostS, results, Tryd.results57]
  exact ⟨_, hs.1, hs.2.2 _ _ hev, (hb1.mono (by omega)).trans hs.2.1⟩
theorem catch_idle (W : World) (a0 a1 a2 : Value) : CallsD Tryd.prog 57 #[a0, a1, a2] .returning W fun e u' w' => e = .returned (.tuple #[]) ∧ u' = .returning ∧ w' = W := by
  refine callsD_of_wpS Tryd.func57 rfl fun c₀ cs hu => ?_
  apply wpS_seq
  apply wpS_region
  simp [wpOpsS, go_sem, recoverD, hu, Tryd.ntmps57, Exit.thenS]
  refine wpS_of_wp ?_
  simp only [Array.replicate, List.replicate, List.setIfInBounds_toArray, List.set_cons_zero, List.set_cons_succ, List.append_toArray, List.cons_append, List.nil_append]
  go_wp2_with fail
  cases c₀
  simp_all [bodyPostS, results, Tryd.results57]
set_option maxRecDepth 100000 in
set_option maxHeartbeats 8000000 in
theorem left_raw (W : World) (gr : Nat) (A : Option Addr) (n c a : Nat) (f : Bool) (h : W.heap[gr]? = some (.cells #[.slice A n c, .int .i64 (a : Int), .bool f] 171 (0, 0))) (hn : n ≤ 1048576) (ha : a ≤ n) :
    Calls Tryd.prog 60 #[.pointer (some ⟨gr, 0, none⟩)] W fun e w' => e = .returned (.int .i64 ((n : Int) - (a : Int))) ∧ Below W.heap.size W w' := by
  have hu := Tryd.underlying171
  have q0 : W.cell? ⟨gr, 0, none⟩ = some (.slice A n c) := (blk_cell h 0).trans rfl
  have q1 : W.cell? ⟨gr, 1, none⟩ = some (.int .i64 (a : Int)) := (blk_cell h 1).trans rfl
  clear h
  go_enter Tryd.func60, Tryd.ntmps60
  go_upto_region 1 with fail
  go_quiet (fail)
  go_wp2_with fail
  go_ret
  exact ⟨rfl, pw_below_drewN (Below.refl _ _) _⟩
set_option maxRecDepth 100000 in
set_option maxHeartbeats 8000000 in
theorem at_raw (W : World) (gr : Nat) (A : Option Addr) (n c a : Nat) (f : Bool) (h : W.heap[gr]? = some (.cells #[.slice A n c, .int .i64 (a : Int), .bool f] 171 (0, 0))) :
    Calls Tryd.prog 61 #[.pointer (some ⟨gr, 0, none⟩)] W fun e w' => e = .returned (.int .i64 (a : Int)) ∧ Below W.heap.size W w' := by
  have hu := Tryd.underlying171
  have q1 : W.cell? ⟨gr, 1, none⟩ = some (.int .i64 (a : Int)) := (blk_cell h 1).trans rfl
  clear h
  go_enter Tryd.func61, Tryd.ntmps61
  go_wp2_with fail
  go_ret
  exact ⟨rfl, Below.refl _ _⟩
theorem results_rc {fn : Func} (h : fn.results = #[.cell 6 28, .cell 7 37, .cell 8 32]) (tmps : Array Value) (w : World) {g0 : Nat} {q0 q1 q2 q3 s ev : Value} (h6 : tmps.getD 6 undef = .pointer (some ⟨g0, 0, none⟩)) (h7 : tmps.getD 7 undef = .pointer (some ⟨g0 + 1, 0, none⟩)) (h8 : tmps.getD 8 undef = .pointer (some ⟨g0 + 2, 0, none⟩)) (hr : Rc w g0 #[q0, q1, q2, q3] s ev) :
    (results fn tmps).run Tryd.prog w = .ok (.tuple #[.agg #[q0, q1, q2, q3], s, ev]) w := by
  rw [Array.getD_eq_getD_getElem?] at h6 h7 h8
  have hu := Tryd.underlying28
  have hu7 := Tryd.underlying37
  have hu8 := Tryd.underlying32
  have c0 : w.cell? ⟨g0, 0, none⟩ = some q0 := (blk_cell hr.a 0).trans rfl
  have c1 : w.cell? ⟨g0, 1, none⟩ = some q1 := (blk_cell hr.a 1).trans rfl
  have c2 : w.cell? ⟨g0, 2, none⟩ = some q2 := (blk_cell hr.a 2).trans rfl
  have c3 : w.cell? ⟨g0, 3, none⟩ = some q3 := (blk_cell hr.a 3).trans rfl
  have c4 : w.cell? ⟨g0 + 1, 0, none⟩ = some s := (blk_cell hr.b 0).trans rfl
  have c5 : w.cell? ⟨g0 + 2, 0, none⟩ = some ev := (blk_cell hr.c 0).trans rfl
  simp [results, h, h6, h7, h8, go_sem, asAddr, c0, c1, c2, c3, c4, c5]
def parsedR (b : List Int) (depth most : Int) : Except (Int × Int) (Ge × List Bool) :=
  if min (max most 0) 65536 < b.length then .error (min (max most 0) 65536, 192) else match geomR b (min depth 256) 257 0 1 0 with
    | .error e => .error e
    | .ok r => if r.2.1 < b.length then .error (r.2.1, 174) else .ok (r.1, r.2.2)
set_option maxRecDepth 100000 in
set_option maxHeartbeats 16000000 in
theorem parsed_calls (A : Option Addr) (c : Nat) (b : List Int) (depth most : Int) (W : World) (hC : kB.C W A b.length b) (hc : b.length ≤ c) (hl : b.length ≤ 1048576) :
    Calls Tryd.prog 40 #[.slice A b.length c, .int .i64 depth, .int .i64 most] W fun e W' => ∃ u v ev, e = .returned (.tuple #[u, v, ev]) ∧ Below W.heap.size W W' ∧
      (∀ x, parsedR b depth most = .error x → u = noGe ∧ v = .slice none 0 0 ∧ ErrV W' ev (some x)) ∧ ∀ r, parsedR b depth most = .ok r → ev = .nilIface ∧ CopyOf 257 W W' u r.1 ∧ Kd.bool.R 4 W' W.heap.size (fun _ => True) v r.2 := by
  have hu := Tryd.underlying28
  have hup := Tryd.underlying133
  have hmx : Tryd.prog.follows .mixedOrders = true := by kernel_rfl
  have hmf : ∀ (fn : Fn) (first cap : Array Value) (w : World), (Instr.makeFunc fn first cap).run Tryd.prog w = .ok (.func fn first cap) w := fun _ _ _ _ => rfl
  obtain ⟨R, hR⟩ : ∃ R, R = parsedR b depth most := ⟨_, rfl⟩
  have HG := Aside0.mk hR
  have HC := Aside0.mk (And.intro hC hc)
  rw [← hR]
  clear hR hC hc
  unfold parsedR at HG
  obtain ⟨m1, hm1⟩ : ∃ y, y = max most 0 := ⟨_, rfl⟩
  rw [← hm1] at HG
  obtain ⟨m, hm⟩ : ∃ y, y = min m1 65536 := ⟨_, rfl⟩
  rw [← hm] at HG
  have hm0 : 0 ≤ m ∧ m ≤ 65536 := by omega
  have hmx9 : (if 65536 < if most < 0 then 0 else most then 65536 else if most < 0 then 0 else most) = m := by
    rw [hm, hm1]
    split <;> split <;> omega
  clear hm hm1
  go_enter_defers Tryd.func40, Tryd.ntmps40
  go_upto_region 1 with fail
  obtain ⟨g0, hg0⟩ : ∃ y, y = W.heap.size := ⟨_, rfl⟩
  obtain ⟨W0, hW0⟩ : ∃ y, y = ((W.alloc (.cells #[.int .i64 0, .slice none 0 0, .slice none 0 0, .slice none 0 0] 28)).alloc (.cells #[.slice none 0 0] 37)).alloc (.cells #[.nilIface] 32) := ⟨_, rfl⟩
  rw [← hW0, ← hg0, show g0 + 1 + 1 = g0 + 2 from rfl]
  have hb0 : Below W.heap.size W W0 := by rw [hW0]; exact below_alloc (below_alloc (below_alloc (Below.refl _ _) _) _) _
  have hrc : Rc W0 g0 #[.int .i64 0, .slice none 0 0, .slice none 0 0, .slice none 0 0] (.slice none 0 0) .nilIface := by
    rw [hW0, hg0]
    refine ⟨blk_alloc (blk_alloc (World.alloc_heap_new _ _) _) _, blk_alloc ?_ _, ?_⟩
    · have h9 := World.alloc_heap_new (W.alloc (.cells #[.int .i64 0, .slice none 0 0, .slice none 0 0, .slice none 0 0] 28)) (.cells #[.slice none 0 0] 37)
      simpa using h9
    · have h9 := World.alloc_heap_new ((W.alloc (.cells #[.int .i64 0, .slice none 0 0, .slice none 0 0, .slice none 0 0] 28)).alloc (.cells #[.slice none 0 0] 37)) (.cells #[.nilIface] 32)
      simpa using h9
  have H0 := Aside0.mk (And.intro hb0 hrc)
  have HG0 := Aside0.mk hg0
  clear hW0 hg0 hb0 hrc
  go_upto_region 2 with fail
  clear hmx9
  obtain ⟨mz, hmz⟩ : ∃ y, y = (if most < 0 then 0 else most) := ⟨_, rfl⟩
  rw [← hmz]
  clear hmz
  by_cases e1 : m < (b.length : Int)
  · rw [if_pos e1] at HG
    go_wp2_with fail
    refine (wrap_calls m 192 _).mono ?_
    rintro e w1 ⟨ve, rfl, hev, hb1⟩
    obtain ⟨gf, e9, hf⟩ := id hev
    subst e9
    have HEV := Aside0.mk (And.intro hev (And.intro (below_step H0.out.1 hb1) (H0.out.2.below hb1)))
    have k1 := H0.out.2.below hb1
    have r0 : w1.cell? ⟨g0, 0, none⟩ = some (.int .i64 0) := (blk_cell k1.a 0).trans rfl
    have r1 : w1.cell? ⟨g0, 1, none⟩ = some (.slice none 0 0) := (blk_cell k1.a 1).trans rfl
    have r2 : w1.cell? ⟨g0, 2, none⟩ = some (.slice none 0 0) := (blk_cell k1.a 2).trans rfl
    have r3 : w1.cell? ⟨g0, 3, none⟩ = some (.slice none 0 0) := (blk_cell k1.a 3).trans rfl
    have r4 : w1.cell? ⟨g0 + 1, 0, none⟩ = some (.slice none 0 0) := (blk_cell k1.b 0).trans rfl
    have r5 : w1.cell? ⟨g0 + 2, 0, none⟩ = some .nilIface := (blk_cell k1.c 0).trans rfl
    have t0 := blk_frozen k1.a 0
    have t1 := blk_frozen k1.a 1
    have t2 := blk_frozen k1.a 2
    have t3 := blk_frozen k1.a 3
    have t4 := blk_frozen k1.b 0
    have t5 := blk_frozen k1.c 0
    clear hf hev hb1 k1
    go_wp2_with fail
    have hs := HEV.out.2.2.store (.int .i64 0) (.slice none 0 0) (.slice none 0 0) (.slice none 0 0) (.slice none 0 0) (.iface 109 (.pointer (some ⟨gf, 0, none⟩)))
    refine ⟨_, results_rc rfl _ _ (by rfl) (by rfl) (by rfl) hs.1, _, _, _, rfl, (HEV.out.2.1.mono (Nat.le_refl _)).trans (hs.2.1.mono (Nat.le_of_eq HG0.out.symm)), fun x hx => ?_, fun r hr => ?_⟩
    · rw [HG.out] at hx
      injection hx with hx
      subst hx
      exact ⟨rfl, rfl, hs.2.2 _ _ HEV.out.1⟩
    · rw [HG.out] at hr
      cases hr
  rw [if_neg e1] at HG
  have hmm : (if 256 < depth then 256 else depth) = min depth 256 := by split <;> omega
  go_wp2_with fail
  refine (newreader_any A c b W0 (Kd.C_below HC.out.1 H0.out.1) HC.out.2 (by omega)).mono ?_
  rintro e w1 ⟨gr, rfl, ⟨wr, hba, hbb, hrd⟩, hb1⟩
  have H1 := Aside0.mk (And.intro (And.intro hba hbb) (And.intro hrd hb1))
  clear hba hbb hrd hb1
  go_upto_region 6 with fail
  obtain ⟨gp, hgp⟩ : ∃ y, y = w1.heap.size := ⟨_, rfl⟩
  obtain ⟨deep, hdeep⟩ : ∃ y, y = min depth 256 := ⟨_, rfl⟩
  rw [← hdeep] at HG ⊢
  have hd9 : deep ≤ 256 := by omega
  obtain ⟨W2, hW2⟩ : ∃ y, y = w1.alloc (.cells #[.pointer (some ⟨gr, 0, none⟩), .int .i64 deep, .slice none 0 0] 133) := ⟨_, rfl⟩
  rw [← hW2, ← hgp]
  have hb2 : Below w1.heap.size w1 W2 := by rw [hW2]; exact below_alloc (Below.refl _ _) _
  have HP := Aside0.mk (show Ps wr W2 gp gr b 0 deep (.slice none 0 0) [] from ⟨by simpa using H1.out.2.1.below hb2, by rw [hW2, hgp]; exact World.alloc_heap_new _ _, Kd.R_nil _ _ _ _ _, by rw [hgp]; exact H1.out.1.2.size, below_step H1.out.1.2 hb2, hl, Nat.zero_le _⟩)
  have HB2 := Aside0.mk (below_step H1.out.2.2 hb2)
  clear hb2 hW2 hgp hdeep hmm
  go_wp2_with fail
  refine (geom_calls 257 wr W2 gp gr b 0 deep (.slice none 0 0) [] 1 0 HP.out (by omega) (by omega) (by omega) (by omega) hd9 (by omega) (by simp)).mono ?_
  rintro e w3 ⟨vo, hv3, hB3, hres⟩
  have hr3 : Rc w3 g0 #[.int .i64 0, .slice none 0 0, .slice none 0 0, .slice none 0 0] (.slice none 0 0) .nilIface := by
    have h9 := H0.out.2.below HB2.out
    exact ⟨HP.out.keepB hv3 h9.a (by decide), HP.out.keepB hv3 h9.b (by decide), HP.out.keepB hv3 h9.c (by decide)⟩
  have hbW : Below W.heap.size W w3 := by
    have h1 := below_step H0.out.1 HB2.out
    have hs := H0.out.1.size
    have hs2 := H1.out.1.1.size
    exact (below_step H0.out.1 H1.out.1.1).trans (hB3.mono (by omega))
  rcases hr : geomR b deep 257 0 1 0 with x | ⟨g, a, os⟩
  · rw [hr] at HG
    have he := hres.1 x hr
    subst he
    have HR3 := Aside0.mk (And.intro hr3 hbW)
    clear hr3 hres hv3 hB3 hbW
    go_wp2_with fail
    refine leaves_cons (f := 57) (args := #[.pointer (some ⟨g0, 0, none⟩), .pointer (some ⟨g0 + 1, 0, none⟩), .pointer (some ⟨g0 + 2, 0, none⟩)]) (by simp) (by simp [go_sem]) ?_
    refine (catch_panicking w3 g0 x _ _ _ _ _ _ HR3.out.1).mono ?_
    rintro e u' w4 ⟨rfl, rfl, ve, hrc4, hev, hb4⟩
    refine ⟨_, results_rc rfl _ _ (by rfl) (by rfl) (by rfl) hrc4, _, _, _, rfl, HR3.out.2.trans (hb4.mono (Nat.le_of_eq HG0.out.symm)), fun y hy => ?_, fun r hr => ?_⟩
    · rw [HG.out] at hy
      injection hy with hy
      subst hy
      exact ⟨rfl, rfl, hev⟩
    · rw [HG.out] at hr
      cases hr
  · rw [hr] at HG
    obtain ⟨u, he, hcp, hp3, hol, -⟩ := hres.2 _ hr
    subst he
    have HCP0 := Aside0.mk hcp
    obtain ⟨cs, e9, hM⟩ := hcp
    obtain ⟨E1, e1_, E2, e2_, E3, e3_, e8, _⟩ := kGe_open (kSp_K 257 ((kSp 257).K_of_M hM))
    subst e8
    subst e9
    have hp3' : Ps wr w3 gp gr b a deep vo os := by simpa using hp3
    obtain ⟨Ar, cr, hrc, hrg⟩ := hp3'.rd
    have hal : a ≤ b.length := hp3'.l.2
    have hpc := hp3'.c
    have hpr := hp3'.r
    have k1 := hr3
    have HR3 := Aside0.mk (And.intro (And.intro hr3 hbW) (And.intro (And.intro hrc hpc) (And.intro hpr hM)))
    have r0 : w3.cell? ⟨g0, 0, none⟩ = some (.int .i64 0) := (blk_cell k1.a 0).trans rfl
    have r1 : w3.cell? ⟨g0, 1, none⟩ = some (.slice none 0 0) := (blk_cell k1.a 1).trans rfl
    have r2 : w3.cell? ⟨g0, 2, none⟩ = some (.slice none 0 0) := (blk_cell k1.a 2).trans rfl
    have r3 : w3.cell? ⟨g0, 3, none⟩ = some (.slice none 0 0) := (blk_cell k1.a 3).trans rfl
    have r4 : w3.cell? ⟨g0 + 1, 0, none⟩ = some (.slice none 0 0) := (blk_cell k1.b 0).trans rfl
    have r5 : w3.cell? ⟨g0 + 2, 0, none⟩ = some (.nilIface) := (blk_cell k1.c 0).trans rfl
    have t0 := blk_frozen k1.a 0
    have t1 := blk_frozen k1.a 1
    have t2 := blk_frozen k1.a 2
    have t3 := blk_frozen k1.a 3
    have t4 := blk_frozen k1.b 0
    have t5 := blk_frozen k1.c 0
    clear hr3 hbW k1 hrc hpc hpr hM hp3 hp3' hol hres hv3 hB3 hrg hr HP
    go_upto_region 7 with fail
    obtain ⟨W4, hW4⟩ : ∃ y, y = (((w3.setCell ⟨g0, 0, none⟩ (.int .i64 g.f0)).setCell ⟨g0, 1, none⟩ (.slice E1 g.f1.length e1_)).setCell ⟨g0, 2, none⟩ (.slice E2 g.f2.length e2_)).setCell ⟨g0, 3, none⟩ (.slice E3 g.f3.length e3_) := ⟨_, rfl⟩
    rw [← hW4]
    obtain ⟨⟨hr3, hbW⟩, ⟨hrc, hpc⟩, hpr, hM⟩ := HR3.out
    have hngr : gr ≠ g0 := blk_ne hrc hr3.a (by decide)
    have hngp : gp ≠ g0 := blk_ne hpc hr3.a (by decide)
    have hrc4 : W4.heap[gr]? = some (.cells #[.slice Ar b.length cr, .int .i64 (a : Int), .bool false] 171 (0, 0)) := by
      rw [hW4]
      exact blk_far (p := ⟨g0, 3, none⟩) (blk_far (p := ⟨g0, 2, none⟩) (blk_far (p := ⟨g0, 1, none⟩) (blk_far (p := ⟨g0, 0, none⟩) hrc hngr _) hngr _) hngr _) hngr _
    have hpc4 : W4.heap[gp]? = some (.cells #[.pointer (some ⟨gr, 0, none⟩), .int .i64 deep, vo] 133 (0, 0)) := by
      rw [hW4]
      exact blk_far (p := ⟨g0, 3, none⟩) (blk_far (p := ⟨g0, 2, none⟩) (blk_far (p := ⟨g0, 1, none⟩) (blk_far (p := ⟨g0, 0, none⟩) hpc hngp _) hngp _) hngp _) hngp _
    have hb4 : Below g0 w3 W4 := by
      rw [hW4]
      exact ((((Below.refl g0 w3).setCell (p := ⟨g0, 0, none⟩) (Nat.le_refl _) _).setCell (p := ⟨g0, 1, none⟩) (Nat.le_refl _) _).setCell (p := ⟨g0, 2, none⟩) (Nat.le_refl _) _).setCell (p := ⟨g0, 3, none⟩) (Nat.le_refl _) _
    have hr4 : Rc W4 g0 #[.int .i64 g.f0, .slice E1 g.f1.length e1_, .slice E2 g.f2.length e2_, .slice E3 g.f3.length e3_] (.slice none 0 0) .nilIface := by
      rw [hW4]
      refine ⟨by simpa using blk_set (blk_set (blk_set (blk_set hr3.a 0 (.int .i64 g.f0)) 1 (.slice E1 g.f1.length e1_)) 2 (.slice E2 g.f2.length e2_)) 3 (.slice E3 g.f3.length e3_), ?_, ?_⟩
      · exact blk_far (p := ⟨g0, 3, none⟩) (blk_far (p := ⟨g0, 2, none⟩) (blk_far (p := ⟨g0, 1, none⟩) (blk_far (p := ⟨g0, 0, none⟩) hr3.b (by show g0 + 1 ≠ g0; omega) _) (by show g0 + 1 ≠ g0; omega) _) (by show g0 + 1 ≠ g0; omega) _) (by show g0 + 1 ≠ g0; omega) _
      · exact blk_far (p := ⟨g0, 3, none⟩) (blk_far (p := ⟨g0, 2, none⟩) (blk_far (p := ⟨g0, 1, none⟩) (blk_far (p := ⟨g0, 0, none⟩) hr3.c (by show g0 + 2 ≠ g0; omega) _) (by show g0 + 2 ≠ g0; omega) _) (by show g0 + 2 ≠ g0; omega) _) (by show g0 + 2 ≠ g0; omega) _
    have hpr4 : Kd.bool.R 4 W4 wr.heap.size (fun _ => True) vo os := by
      rw [hW4]
      exact Kd.R_set (Kd.R_set (Kd.R_set (Kd.R_set hpr hr3.a (by decide) 0 _) (blk_set hr3.a 0 _) (by decide) 1 _) (blk_set (blk_set hr3.a 0 _) 1 _) (by decide) 2 _) (blk_set (blk_set (blk_set hr3.a 0 _) 1 _) 2 _) (by decide) 3 _
    have hg2 : g0 < W2.heap.size := by have h9 := blk_lt (H0.out.2.below HB2.out).a; exact h9
    have hM4 : (kSp 257).M W4 W2.heap.size (fun k => W2.heap.size ≤ k) g [.int .i64 g.f0, .slice E1 g.f1.length e1_, .slice E2 g.f2.length e2_, .slice E3 g.f3.length e3_] := by
      rw [hW4]
      exact Kd.M_far (p := ⟨g0, 3, none⟩) (Kd.M_far (p := ⟨g0, 2, none⟩) (Kd.M_far (p := ⟨g0, 1, none⟩) (Kd.M_far (p := ⟨g0, 0, none⟩) hM (fun j h => by show j ≠ g0; omega) _) (fun j h => by show j ≠ g0; omega) _) (fun j h => by show j ≠ g0; omega) _) (fun j h => by show j ≠ g0; omega) _
    have z0_ : W4.cell? ⟨gp, 0, none⟩ = some (.pointer (some ⟨gr, 0, none⟩)) := (blk_cell hpc4 0).trans rfl
    have H4 := Aside0.mk (And.intro (And.intro hr4 (hbW.trans (hb4.mono (Nat.le_of_eq HG0.out.symm)))) (And.intro (And.intro hrc4 hpc4) (And.intro hpr4 hM4)))
    clear hW4 hr3 hbW hrc hpc hpr hM hr4 hb4 hrc4 hpc4 hpr4 hM4 HR3 r0 r1 r2 r3 r4 r5 t0 t1 t2 t3 t4 t5 hngr hngp
    go_wp2_with fail
    refine (left_raw W4 gr Ar b.length cr a false H4.out.2.1.1 hl hal).mono ?_
    rintro e W5 ⟨rfl, hb5⟩
    have H5 := Aside0.mk (And.intro (And.intro (H4.out.1.1.below hb5) (below_step H4.out.1.2 hb5)) (And.intro (And.intro (blk_below H4.out.2.1.1 hb5) (blk_below H4.out.2.1.2 hb5)) (And.intro (Kd.R_below H4.out.2.2.1 hb5) (Kd.M_below H4.out.2.2.2 hb5))))
    have z0_ : W5.cell? ⟨gp, 0, none⟩ = some (.pointer (some ⟨gr, 0, none⟩)) := (blk_cell H5.out.2.1.2 0).trans rfl
    clear hb5 H4
    by_cases e2 : a < b.length
    · rw [if_pos e2] at HG
      have e2' : (0 : Int) < (b.length : Int) - (a : Int) := by omega
      go_wp2_with fail
      refine (at_raw W5 gr Ar b.length cr a false H5.out.2.1.1).mono ?_
      rintro e W6 ⟨rfl, hb6⟩
      have H6 := Aside0.mk (And.intro (H5.out.1.1.below hb6) (below_step H5.out.1.2 hb6))
      clear hb6 H5
      go_wp2_with fail
      refine (wrap_calls (a : Int) 174 _).mono ?_
      rintro e w1 ⟨ve, rfl, hev, hb1⟩
      obtain ⟨gf, e9, hf⟩ := id hev
      subst e9
      have HEV := Aside0.mk (And.intro hev (And.intro (below_step H6.out.2 hb1) (H6.out.1.below hb1)))
      have k1 := H6.out.1.below hb1
      have r0 : w1.cell? ⟨g0, 0, none⟩ = some (.int .i64 g.f0) := (blk_cell k1.a 0).trans rfl
      have r1 : w1.cell? ⟨g0, 1, none⟩ = some (.slice E1 g.f1.length e1_) := (blk_cell k1.a 1).trans rfl
      have r2 : w1.cell? ⟨g0, 2, none⟩ = some (.slice E2 g.f2.length e2_) := (blk_cell k1.a 2).trans rfl
      have r3 : w1.cell? ⟨g0, 3, none⟩ = some (.slice E3 g.f3.length e3_) := (blk_cell k1.a 3).trans rfl
      have r4 : w1.cell? ⟨g0 + 1, 0, none⟩ = some (.slice none 0 0) := (blk_cell k1.b 0).trans rfl
      have r5 : w1.cell? ⟨g0 + 2, 0, none⟩ = some (.nilIface) := (blk_cell k1.c 0).trans rfl
      have t0 := blk_frozen k1.a 0
      have t1 := blk_frozen k1.a 1
      have t2 := blk_frozen k1.a 2
      have t3 := blk_frozen k1.a 3
      have t4 := blk_frozen k1.b 0
      have t5 := blk_frozen k1.c 0
      clear hf hev hb1 k1 H6
      go_wp2_with fail
      have hs := HEV.out.2.2.store (.int .i64 0) (.slice none 0 0) (.slice none 0 0) (.slice none 0 0) (.slice none 0 0) (.iface 109 (.pointer (some ⟨gf, 0, none⟩)))
      refine leaves_cons (f := 57) (args := #[.pointer (some ⟨g0, 0, none⟩), .pointer (some ⟨g0 + 1, 0, none⟩), .pointer (some ⟨g0 + 2, 0, none⟩)]) (by simp) (by simp [go_sem]) ?_
      refine (catch_idle _ _ _ _).mono ?_
      rintro e u' w4 ⟨rfl, rfl, hw4⟩
      subst hw4
      refine ⟨_, results_rc rfl _ _ (by rfl) (by rfl) (by rfl) hs.1, _, _, _, rfl, HEV.out.2.1.trans (hs.2.1.mono (Nat.le_of_eq HG0.out.symm)), fun y hy => ?_, fun r hr => ?_⟩
      · rw [HG.out] at hy
        injection hy with hy
        subst hy
        exact ⟨rfl, rfl, hs.2.2 _ _ HEV.out.1⟩
      · rw [HG.out] at hr
        cases hr
    · rw [if_neg e2] at HG
      have e2' : ¬ ((0 : Int) < (b.length : Int) - (a : Int)) := by omega
      go_upto_region 9 with fail
      obtain ⟨Av, cv, e9⟩ := Kd.R_slice H5.out.2.2.1
      subst e9
      have k1 := H5.out.1.1
      have r0 : W5.cell? ⟨g0, 0, none⟩ = some (.int .i64 g.f0) := (blk_cell k1.a 0).trans rfl
      have r1 : W5.cell? ⟨g0, 1, none⟩ = some (.slice E1 g.f1.length e1_) := (blk_cell k1.a 1).trans rfl
      have r2 : W5.cell? ⟨g0, 2, none⟩ = some (.slice E2 g.f2.length e2_) := (blk_cell k1.a 2).trans rfl
      have r3 : W5.cell? ⟨g0, 3, none⟩ = some (.slice E3 g.f3.length e3_) := (blk_cell k1.a 3).trans rfl
      have r4 : W5.cell? ⟨g0 + 1, 0, none⟩ = some (.slice none 0 0) := (blk_cell k1.b 0).trans rfl
      have r5 : W5.cell? ⟨g0 + 2, 0, none⟩ = some (.nilIface) := (blk_cell k1.c 0).trans rfl
      have t0 := blk_frozen k1.a 0
      have t1 := blk_frozen k1.a 1
      have t2 := blk_frozen k1.a 2
      have t3 := blk_frozen k1.a 3
      have t4 := blk_frozen k1.b 0
      have t5 := blk_frozen k1.c 0
      have zp : W5.cell? ⟨gp, 2, none⟩ = some (.slice Av os.length cv) := (blk_cell H5.out.2.1.2 2).trans rfl
      have hnp : gp ≠ g0 := blk_ne H5.out.2.1.2 k1.a (by decide)
      have hnp2 : g0 ≠ gp := fun e => hnp e.symm
      clear k1
      go_region
      go_wp2_with fail
      have hs := H5.out.1.1.store (.int .i64 g.f0) (.slice E1 g.f1.length e1_) (.slice E2 g.f2.length e2_) (.slice E3 g.f3.length e3_) (.slice Av os.length cv) .nilIface
      have hsf := stored_far W5 g0 (.int .i64 g.f0) (.slice E1 g.f1.length e1_) (.slice E2 g.f2.length e2_) (.slice E3 g.f3.length e3_) (.slice Av os.length cv) .nilIface
      obtain ⟨WS, hWS⟩ : ∃ y, y = stored W5 g0 (.int .i64 g.f0) (.slice E1 g.f1.length e1_) (.slice E2 g.f2.length e2_) (.slice E3 g.f3.length e3_) (.slice Av os.length cv) .nilIface := ⟨_, rfl⟩
      change Leaves _ _ _ _ _ _ (World.drew (stored W5 g0 (.int .i64 g.f0) (.slice E1 g.f1.length e1_) (.slice E2 g.f2.length e2_) (.slice E3 g.f3.length e3_) (.slice Av os.length cv) .nilIface))
      rw [← hWS] at hs hsf ⊢
      have hbd : Below WS.heap.size WS WS.drew := below_drew (Below.refl _ _)
      have hrd := hs.1.below hbd
      have hgq : g0 + 2 < W2.heap.size ∧ g0 + 2 < wr.heap.size := by
        have h9 := blk_lt (H0.out.2.below HB2.out).c
        have h8 := blk_lt (H0.out.2.below H1.out.1.1).c
        exact ⟨h9, h8⟩
      have hwr : W.heap.size ≤ wr.heap.size := by have h9 := HG0.out; omega
      have hw2 : W.heap.size ≤ W2.heap.size := by have h9 := HG0.out; omega
      refine leaves_cons (f := 57) (args := #[.pointer (some ⟨g0, 0, none⟩), .pointer (some ⟨g0 + 1, 0, none⟩), .pointer (some ⟨g0 + 2, 0, none⟩)]) (by simp) (by simp [go_sem]) ?_
      refine (catch_idle _ _ _ _).mono ?_
      rintro e u' w4 ⟨rfl, rfl, hw4⟩
      subst hw4
      refine ⟨_, results_rc rfl _ _ (by rfl) (by rfl) (by rfl) hrd, _, _, _, rfl, (H5.out.1.2.trans (hs.2.1.mono (Nat.le_of_eq HG0.out.symm))).trans (hbd.mono (by have h9 := H5.out.1.2.size; have h8 := hs.2.1.size; omega)), fun y hy => ?_, fun r hr => ?_⟩
      · rw [HG.out] at hy
        cases hy
      · rw [HG.out] at hr
        injection hr with hr
        subst hr
        refine ⟨rfl, ⟨_, rfl, ?_⟩, ?_⟩
        · have h9 := Kd.M_step H5.out.2.2.2 (w1 := WS) (fun k hk _ => hsf k (by omega))
          exact Kd.M_below ((kSp 257).M_lower hw2 ((kSp 257).M_mono (fun k hk => Nat.le_trans hw2 hk) h9)) hbd
        · have h9 := Kd.R_step (Kd.R_mono (Kd.R_bound H5.out.2.2.1) (fun k h => h.2.1)) (w1 := WS) (fun k hk _ => hsf k (by omega))
          exact Kd.R_below (Kd.R_lower (Kd.R_mono h9 (fun _ _ => trivial)) hwr) hbd
theorem results_geom2 {fn : Func} {a c : Tmp} (h : fn.results = #[.cell a 28, .tmp c]) (tmps : Array Value) (w : World) {b : Nat} {q0 q1 q2 q3 : Value} (hp : tmps.getD a undef = .pointer (some ⟨b, 0, none⟩)) (hb : w.heap[b]? = some (.cells #[q0, q1, q2, q3] 28 (0, 0))) : (results fn tmps).run Tryd.prog w = .ok (.tuple #[.agg #[q0, q1, q2, q3], tmps.getD c undef]) w := by
  rw [Array.getD_eq_getD_getElem?] at hp ⊢
  have hu := Tryd.underlying28
  have c0 : w.cell? ⟨b, 0, none⟩ = some q0 := (blk_cell hb 0).trans rfl
  have c1 : w.cell? ⟨b, 1, none⟩ = some q1 := (blk_cell hb 1).trans rfl
  have c2 : w.cell? ⟨b, 2, none⟩ = some q2 := (blk_cell hb 2).trans rfl
  have c3 : w.cell? ⟨b, 3, none⟩ = some q3 := (blk_cell hb 3).trans rfl
  simp [results, h, hp, go_sem, asAddr, c0, c1, c2, c3]
theorem CopyOf.below {n : Nat} {w w1 w' : World} {v : Value} {g : Ge} (h : CopyOf n w w1 v g) (hb : Below w1.heap.size w1 w') : CopyOf n w w' v g := by
  obtain ⟨cs, e, h⟩ := h
  exact ⟨cs, e, Kd.M_below h hb⟩
theorem CopyOf.lower {n : Nat} {w w0 w' : World} {v : Value} {g : Ge} (h : CopyOf n w w' v g) (hb : w0.heap.size ≤ w.heap.size) : CopyOf n w0 w' v g := by
  obtain ⟨cs, e, h⟩ := h
  exact ⟨cs, e, (kSp n).M_lower hb ((kSp n).M_mono (fun k hk => Nat.le_trans hb hk) h)⟩
theorem CopyOf.isG {n : Nat} {w w' : World} {v : Value} {g : Ge} (h : CopyOf n w w' v g) : IsG w' v g := by
  obtain ⟨cs, rfl, hM⟩ := h
  obtain ⟨A1, c1, A2, c2, A3, c3, rfl, l1, h1, l2, h2, l3, h3⟩ := kGe_open (kSp_K _ ((kSp _).K_of_M hM))
  exact ⟨A1, c1, A2, c2, A3, c3, rfl, l1, h1, l2, h2, l3, h3⟩
theorem CopyOf.agg {n : Nat} {w w' : World} {u : Value} {k : Ge} (h : CopyOf n w w' u k) : ∃ k A1 n1 c1 A2 n2 c2 A3 n3 c3, u = .agg #[.int .i64 k, .slice A1 n1 c1, .slice A2 n2 c2, .slice A3 n3 c3] := by
  obtain ⟨cs, rfl, hM⟩ := h
  obtain ⟨A1, c1, A2, c2, A3, c3, rfl, _⟩ := kGe_open (kSp_K n ((kSp n).K_of_M hM))
  exact ⟨_, _, _, _, _, _, _, _, _, _, rfl⟩
theorem CopyOf.setG {n : Nat} {w w1 : World} {v : Value} {g : Ge} (h : CopyOf n w w1 v g) {b j : Nat} {u : Value} (hb : b < w.heap.size) : CopyOf n w (w1.setCell ⟨b, j, none⟩ u) v g := by
  obtain ⟨cs, e, h⟩ := h
  exact ⟨cs, e, Kd.M_far (p := ⟨b, j, none⟩) h (fun k hk => by show k ≠ b; omega) _⟩
set_option maxRecDepth 100000 in
set_option maxHeartbeats 16000000 in
theorem parse_calls (A : Option Addr) (c : Nat) (b : List Int) (depth most : Int) (W : World) (hC : kB.C W A b.length b) (hc : b.length ≤ c) (hl : b.length ≤ 1048576) :
    Calls Tryd.prog 13 #[.slice A b.length c, .int .i64 depth, .int .i64 most] W fun e W' => ∃ u ev, e = .returned (.tuple #[u, ev]) ∧ Below W.heap.size W W' ∧
      (∀ x, parsedR b depth most = .error x → u = noGe ∧ ErrV W' ev (some x)) ∧ ∀ r, parsedR b depth most = .ok r → ev = .nilIface ∧ CopyOf 257 W W' u r.1 := by
  have hu := Tryd.underlying28
  have HC := Aside0.mk (And.intro hC hc)
  clear hC hc
  go_enter Tryd.func13, Tryd.ntmps13
  go_upto_region 1 with fail
  obtain ⟨g0, hg0⟩ : ∃ y, y = W.heap.size := ⟨_, rfl⟩
  obtain ⟨W0, hW0⟩ : ∃ y, y = W.alloc (.cells #[.int .i64 0, .slice none 0 0, .slice none 0 0, .slice none 0 0] 28) := ⟨_, rfl⟩
  rw [← hW0, ← hg0]
  have hb0 : Below W.heap.size W W0 := by rw [hW0]; exact below_alloc (Below.refl _ _) _
  have ka : W0.heap[g0]? = some (.cells #[.int .i64 0, .slice none 0 0, .slice none 0 0, .slice none 0 0] 28 (0, 0)) := by rw [hW0, hg0]; exact World.alloc_heap_new _ _
  have H0 := Aside0.mk (And.intro hb0 ka)
  have HG0 := Aside0.mk hg0
  clear hW0 hg0 hb0 ka
  go_wp2_with fail
  refine (parsed_calls A c b depth most W0 (Kd.C_below HC.out.1 H0.out.1) HC.out.2 hl).mono ?_
  rintro e W1 ⟨u, v, ev, rfl, hb1, hE, hO⟩
  have hag : ∃ k A1 n1 c1 A2 n2 c2 A3 n3 c3, u = .agg #[.int .i64 k, .slice A1 n1 c1, .slice A2 n2 c2, .slice A3 n3 c3] := by
    rcases hr : parsedR b depth most with x | r
    · exact ⟨_, _, _, _, _, _, _, _, _, _, (hE x hr).1⟩
    · exact (hO r hr).2.1.agg
  obtain ⟨k, A1, n1, c1, A2, n2, c2, A3, n3, c3, rfl⟩ := hag
  have hg1 : g0 < W0.heap.size := blk_lt H0.out.2
  have H1 := Aside0.mk (And.intro (And.intro hE hO) (And.intro (below_step H0.out.1 hb1) (And.intro (blk_below H0.out.2 hb1) hg1)))
  clear hb1 hE hO hg1
  go_upto_region 2 with fail
  obtain ⟨W2, hW2⟩ : ∃ y, y = W1.alloc (.cells #[.int .i64 k, .slice A1 n1 c1, .slice A2 n2 c2, .slice A3 n3 c3] 28) := ⟨_, rfl⟩
  obtain ⟨g2, hg2⟩ : ∃ y, y = W1.heap.size := ⟨_, rfl⟩
  rw [← hW2, ← hg2]
  have hb2 : Below W1.heap.size W1 W2 := by rw [hW2]; exact below_alloc (Below.refl _ _) _
  have k2 : W2.heap[g2]? = some (.cells #[.int .i64 k, .slice A1 n1 c1, .slice A2 n2 c2, .slice A3 n3 c3] 28 (0, 0)) := by rw [hW2, hg2]; exact World.alloc_heap_new _ _
  have k0 := blk_below H1.out.2.2.1 hb2
  have H2 := Aside0.mk (And.intro (And.intro hb2 (below_step H1.out.2.1 hb2)) (And.intro k0 k2))
  have s0 : W2.cell? ⟨g2, 0, none⟩ = some (.int .i64 k) := (blk_cell k2 0).trans rfl
  have s1 : W2.cell? ⟨g2, 1, none⟩ = some (.slice A1 n1 c1) := (blk_cell k2 1).trans rfl
  have s2 : W2.cell? ⟨g2, 2, none⟩ = some (.slice A2 n2 c2) := (blk_cell k2 2).trans rfl
  have s3 : W2.cell? ⟨g2, 3, none⟩ = some (.slice A3 n3 c3) := (blk_cell k2 3).trans rfl
  have r0 : W2.cell? ⟨g0, 0, none⟩ = some (.int .i64 0) := (blk_cell k0 0).trans rfl
  have r1 : W2.cell? ⟨g0, 1, none⟩ = some (.slice none 0 0) := (blk_cell k0 1).trans rfl
  have r2 : W2.cell? ⟨g0, 2, none⟩ = some (.slice none 0 0) := (blk_cell k0 2).trans rfl
  have r3 : W2.cell? ⟨g0, 3, none⟩ = some (.slice none 0 0) := (blk_cell k0 3).trans rfl
  have t0 := blk_frozen k0 0
  have t1 := blk_frozen k0 1
  have t2 := blk_frozen k0 2
  have t3 := blk_frozen k0 3
  clear hW2 hg2 hb2 k0 k2
  go_wp2_with fail
  have bk := blk_set (blk_set (blk_set (blk_set H2.out.2.1 0 (.int .i64 k)) 1 (.slice A1 n1 c1)) 2 (.slice A2 n2 c2)) 3 (.slice A3 n3 c3)
  refine bodyPost_ret (results_geom2 (a := 6) (c := 7) (by rfl) _ _ (by rfl) (by simpa using bk)) rfl ?_
  have hge : W.heap.size ≤ g0 := Nat.le_of_eq HG0.out.symm
  refine ⟨_, _, rfl, (((H2.out.1.2.setCell (p := ⟨g0, 0, none⟩) hge _).setCell (p := ⟨g0, 1, none⟩) hge _).setCell (p := ⟨g0, 2, none⟩) hge _).setCell (p := ⟨g0, 3, none⟩) hge _, fun x hx => ?_, fun r hr => ?_⟩
  · obtain ⟨h1, -, h3⟩ := H1.out.1.1 x hx
    have h4 := h3.below H2.out.1.1
    have v1 := ErrV.farT h4 (j := 0) (u := (.int .i64 k)) H2.out.2.1 (by decide)
    have v2 := ErrV.farT v1 (j := 1) (u := (.slice A1 n1 c1)) (blk_set H2.out.2.1 0 (.int .i64 k)) (by decide)
    have v3 := ErrV.farT v2 (j := 2) (u := (.slice A2 n2 c2)) (blk_set (blk_set H2.out.2.1 0 (.int .i64 k)) 1 (.slice A1 n1 c1)) (by decide)
    exact ⟨h1, ErrV.farT v3 (j := 3) (u := (.slice A3 n3 c3)) (blk_set (blk_set (blk_set H2.out.2.1 0 (.int .i64 k)) 1 (.slice A1 n1 c1)) 2 (.slice A2 n2 c2)) (by decide)⟩
  · obtain ⟨h1, h2, -⟩ := H1.out.1.2 r hr
    have h4 := h2.below H2.out.1.1
    have hlt := H1.out.2.2.2
    exact ⟨h1, CopyOf.lower ((((h4.setG hlt).setG hlt).setG hlt).setG hlt) H0.out.1.size⟩
end Go.Proofs.YtiiolhnpnlmkjaaDoor.Tree
namespace Go.Proofs.YtiiolhnpnlmkjaaDoor.Tree
open Go.RowKit Go.Proofs.YtiiolhnpnlmkjaaDoor.PWkbPrints Go.Proofs.YtiiolhnpnlmkjaaDoorW.PrintWords Go.Proofs.YtiiolhnpnlmkjaaDoorW.PrintLast Go.Proofs.YtiiolhnpnlmkjaaDoorW.PrintMore Go.Proofs.YtiiolhnpnlmkjaaDoor.Rdr Go.Proofs.YtiiolhnpnlmkjaaDoor.Math
def leN : List Nat → Nat
  | [] => 0
  | c :: cs => c + 256 * leN cs
def beN : Nat → List Nat → Nat
  | v, [] => v
  | v, c :: cs => beN (v * 256 + c) cs
def castsB (l : List Nat) : List Int := l.map (fun (n : Nat) => (n : Int))
theorem castsB_length (l : List Nat) : (castsB l).length = l.length := by simp [castsB]
theorem castsB_rd (l : List Nat) (i : Nat) (h : i < l.length) : rd (castsB l) (i : Int) = ((l[i]) : Int) := by
  simp [rd, castsB, List.getD_eq_getElem?_getD, List.getElem?_eq_getElem h]
theorem wrap_small (n : Nat) (h : n < 256) : IntKind.u64.wrap ((n : Nat) : Int) = (n : Int) := by rw [IntKind.wrap_u64]; omega
theorem pow256 (i : Nat) : (2 : Nat) ^ (8 * i) = 256 ^ i := by rw [Nat.pow_mul]
theorem pow_le8 (i : Nat) (h : i ≤ 7) : (256 : Nat) ^ (i + 1) ≤ 18446744073709551616 := by
  have := Nat.pow_le_pow_right (n := 256) (by omega) (show i + 1 ≤ 8 by omega)
  simpa using this
theorem tkl_le (L : List Nat) (hL : ∀ c ∈ L, c < 256) (h8 : L.length ≤ 8) : ∀ (d k i v : Nat), i + d = L.length → d < k → v < 256 ^ i → tkl k (castsB L) true (i : Int) (v : Int) = some (((v + 256 ^ i * leN (L.drop i) : Nat)) : Int) := by
  intro d
  induction d with
  | zero =>
    intro k i v hi hk hv
    obtain ⟨k, rfl⟩ : ∃ m, k = m + 1 := ⟨k - 1, by omega⟩
    rw [tkl, castsB_length, if_neg (by omega), List.drop_eq_nil_of_le (by omega)]
    simp [leN]
  | succ d ih =>
    intro k i v hi hk hv
    obtain ⟨k, rfl⟩ : ∃ m, k = m + 1 := ⟨k - 1, by omega⟩
    have hil : i < L.length := by omega
    have hc : L[i] < 256 := hL _ (List.getElem_mem hil)
    have hp8 := pow_le8 i (by omega)
    rw [Nat.pow_succ] at hp8
    have hpp : 0 < 256 ^ i := Nat.pow_pos (by omega)
    have hm : L[i] * 256 ^ i ≤ 255 * 256 ^ i := Nat.mul_le_mul_right _ (by omega)
    rw [tkl, castsB_length, if_pos (by omega), castsB_rd L i hil, if_pos rfl, wrap_small _ hc, show (8 : Int) * (i : Int) = ((8 * i : Nat) : Int) from by omega, shlN _ (8 * i) (by omega), pow256, Nat.mod_eq_of_lt (by omega), ← pow256]
    rw [orN_add v L[i] (8 * i) (by rw [pow256]; exact hv) (by rw [pow256, Nat.mul_comm]; omega), pow256, show (i : Int) + 1 = ((i + 1 : Nat) : Int) from by omega]
    rw [ih k (i + 1) _ (by omega) (by omega) (by rw [Nat.pow_succ, Nat.mul_comm (256 ^ i) L[i]]; omega), List.drop_eq_getElem_cons hil, leN, Nat.pow_succ]
    congr 2
    rw [Nat.mul_add, ← Nat.mul_assoc, Nat.add_assoc]
theorem tkl_be (L : List Nat) (hL : ∀ c ∈ L, c < 256) (h8 : L.length ≤ 8) : ∀ (d k i v : Nat), i + d = L.length → d < k → v < 256 ^ i → tkl k (castsB L) false (i : Int) (v : Int) = some ((beN v (L.drop i) : Nat) : Int) := by
  intro d
  induction d with
  | zero =>
    intro k i v hi hk hv
    obtain ⟨k, rfl⟩ : ∃ m, k = m + 1 := ⟨k - 1, by omega⟩
    rw [tkl, castsB_length, if_neg (by omega), List.drop_eq_nil_of_le (by omega)]
    rfl
  | succ d ih =>
    intro k i v hi hk hv
    obtain ⟨k, rfl⟩ : ∃ m, k = m + 1 := ⟨k - 1, by omega⟩
    have hil : i < L.length := by omega
    have hc : L[i] < 256 := hL _ (List.getElem_mem hil)
    have hp8 := pow_le8 i (by omega)
    rw [Nat.pow_succ] at hp8
    rw [tkl, castsB_length, if_pos (by omega), castsB_rd L i hil, if_neg (by decide), wrap_small _ hc, show (8 : Int) = ((8 : Nat) : Int) from rfl, shlN v 8 (by omega), Nat.mod_eq_of_lt (by omega)]
    rw [orN_add' L[i] v 8 (by omega) (by omega), show (i : Int) + 1 = ((i + 1 : Nat) : Int) from by omega, ih k (i + 1) _ (by omega) (by omega) (by rw [Nat.pow_succ]; omega), List.drop_eq_getElem_cons hil, beN]
    congr 3
    omega
def b4 (U : Nat) : List Nat := [U % 256, U / 256 % 256, U / 65536 % 256, U / 16777216 % 256]
def b8 (V : Nat) : List Nat := [V % 256, V / 256 % 256, V / 65536 % 256, V / 16777216 % 256, V / 4294967296 % 256, V / 1099511627776 % 256, V / 281474976710656 % 256, V / 72057594037927936 % 256]
theorem b4_le (U : Nat) (h : U < 4294967296) : leN (b4 U) = U := by simp only [b4, leN]; omega
theorem b4_be (U : Nat) (h : U < 4294967296) : beN 0 (b4 U).reverse = U := by simp only [b4, List.reverse_cons, List.reverse_nil, List.nil_append, List.cons_append, beN]; omega
theorem b4_byte (U : Nat) : ∀ c ∈ b4 U, c < 256 := by intro c hc; simp only [b4, List.mem_cons, List.not_mem_nil, or_false] at hc; omega
/-- So many bytes stand at a place. -/
def St (b : List Int) (a : Nat) (X : List Int) : Prop := ∃ t, b.drop a = X ++ t
def Byt (b : List Int) : Prop := ∀ x ∈ b, 0 ≤ x ∧ x < 256
section
variable {b X Y : List Int} {a k : Nat}
theorem St.app (h : St b a (X ++ Y)) : St b a X ∧ St b (a + X.length) Y := by
  obtain ⟨t, h⟩ := h
  rw [List.append_assoc] at h
  exact ⟨⟨_, h⟩, t, by rw [← List.drop_drop, h, List.drop_left]⟩
theorem St.le (h : St b a X) (ha : a ≤ b.length) : a + X.length ≤ b.length := by
  obtain ⟨t, h⟩ := h
  have := congrArg List.length h
  rw [List.length_drop, List.length_append] at this
  omega
theorem St.take (h : St b a X) : (b.drop a).take X.length = X := by
  obtain ⟨t, h⟩ := h
  rw [h, List.take_left]
theorem St.of_take (n : Nat) : St b a ((b.drop a).take n) := ⟨_, (List.take_append_drop _ _).symm⟩
theorem St.cut (h : St b a X) (ha : a + X.length ≤ k) : St (b.take k) a X := by
  obtain ⟨t, h⟩ := h
  refine ⟨t.take (k - a - X.length), ?_⟩
  rw [List.drop_take, h, show k - a = X.length + (k - a - X.length) from by omega, List.take_length_add_append]
  congr 2
  omega
theorem St.join (h : St b a X) (h2 : St b (a + X.length) Y) : St b a (X ++ Y) := by
  obtain ⟨t, h⟩ := h
  obtain ⟨s, h2⟩ := h2
  rw [← List.drop_drop, h, List.drop_left] at h2
  exact ⟨s, by rw [h, h2, List.append_assoc]⟩
theorem Byt.take (h : Byt b) (a n : Nat) : Byt ((b.drop a).take n) := fun x hx => h x (List.mem_of_mem_drop (List.mem_of_mem_take hx))
theorem nats_of {L : List Int} (h : Byt L) : ∃ N, L = castsB N ∧ ∀ c ∈ N, c < 256 := by
  refine ⟨L.map Int.toNat, ?_, ?_⟩
  · unfold castsB
    rw [List.map_map]
    refine (List.map_id L).symm.trans (List.map_congr_left fun x hx => ?_)
    have := h x hx
    show x = ((x.toNat : Nat) : Int)
    omega
  · intro c hc
    obtain ⟨x, hx, rfl⟩ := List.mem_map.1 hc
    have := h x hx
    omega
theorem numB_nat {L : List Nat} (sz : Nat) (le : Bool) (hs : L.length = sz) (hb : ∀ c ∈ L, c < 256) (h8 : sz ≤ 8) (ht : (b.drop a).take sz = castsB L) : numB b a sz le = ((if le = true then leN L else beN 0 L : Nat) : Int) := by
  unfold numB
  rw [ht]
  cases le
  · have := tkl_be L hb (by omega) L.length 20 0 0 (by omega) (by omega) (by simp)
    rw [if_neg (by decide)]
    erw [this]
    simp
  · have := tkl_le L hb (by omega) L.length 20 0 0 (by omega) (by omega) (by simp)
    rw [if_pos rfl]
    erw [this]
    simp
theorem P32_nat (U : Nat) (le : Bool) : P32 (U : Int) le = castsB (if le = true then b4 U else (b4 U).reverse) := by
  cases le <;> simp [P32, octet_put_uint32.out, castsB, b4]
theorem P64_nat (U : Nat) (le : Bool) : P64 [] (U : Int) le = castsB (if le = true then b8 U else (b8 U).reverse) := by
  cases le <;> simp [P64, octet_put_uint64.out, castsB, b8]
theorem P64_app (l : List Int) (v : Int) (le : Bool) : P64 l v le = l ++ P64 [] v le := by
  cases le <;> simp [P64, octet_put_uint64.out]
theorem St.w32 {v : Int} {le : Bool} (h : St b a (P32 v le)) (h0 : 0 ≤ v) (h1 : v < 4294967296) : numB b a 4 le = v := by
  obtain ⟨U, rfl⟩ := Int.eq_ofNat_of_zero_le h0
  have ht := h.take
  rw [P32_len, P32_nat] at ht
  rw [numB_nat 4 le (by cases le <;> rfl) (by cases le <;> intro c hc <;> simp only [Bool.false_eq_true, if_false, if_true, List.mem_reverse] at hc <;> exact b4_byte U c hc) (by decide) ht]
  cases le <;> simp [b4_le U (by omega), b4_be U (by omega)]
theorem St.w8 {v : Int} (h : St b a [v]) (h0 : 0 ≤ v) (h1 : v < 256) : numB b a 1 false = v := by
  obtain ⟨U, rfl⟩ := Int.eq_ofNat_of_zero_le h0
  have ht := h.take
  rw [numB_nat (L := [U]) 1 false rfl (by intro c hc; rw [List.mem_singleton.1 hc]; omega) (by decide) ht]
  simp [beN]
theorem nat4 {L : List Nat} (h : L.length = 4) : ∃ x y z u, L = [x, y, z, u] := by
  match L, h with
  | [x, y, z, u], _ => exact ⟨x, y, z, u, rfl⟩
theorem nat8 {L : List Nat} (h : L.length = 8) : ∃ x y z u x' y' z' u', L = [x, y, z, u, x', y', z', u'] := by
  match L, h with
  | [x, y, z, u, x', y', z', u'], _ => exact ⟨x, y, z, u, x', y', z', u', rfl⟩
theorem byt_at (hb : Byt b) (n : Nat) (h : a + n ≤ b.length) : ∃ N : List Nat, (b.drop a).take n = castsB N ∧ (∀ c ∈ N, c < 256) ∧ N.length = n := by
  obtain ⟨N, e, hN⟩ := nats_of (hb.take a n)
  refine ⟨N, e, hN, ?_⟩
  have := congrArg List.length e
  rw [castsB_length, List.length_take, List.length_drop] at this
  omega
theorem b4_rev {x y z u : Nat} (h1 : x < 256) (h2 : y < 256) (h3 : z < 256) (h4 : u < 256) : ∀ V, V = x + 256 * (y + 256 * (z + 256 * u)) → b4 V = [x, y, z, u] := by
  intro V hV
  unfold b4
  have e1 : V % 256 = x := by omega
  have e2 : V / 256 % 256 = y := by omega
  have e3 : V / 65536 % 256 = z := by omega
  have e4 : V / 16777216 % 256 = u := by omega
  rw [e1, e2, e3, e4]
theorem w32_of (hb : Byt b) (h : a + 4 ≤ b.length) (le : Bool) : St b a (P32 (numB b a 4 le) le) ∧ 0 ≤ numB b a 4 le ∧ numB b a 4 le < 4294967296 := by
  obtain ⟨N, e, hN, hl⟩ := byt_at hb 4 h
  rw [numB_nat 4 le hl hN (by decide) e]
  have hs : St b a (castsB N) := by rw [← e]; exact St.of_take 4
  obtain ⟨x, y, z, u, rfl⟩ := nat4 hl
  simp only [List.mem_cons, List.not_mem_nil, or_false, forall_eq_or_imp, forall_eq] at hN
  obtain ⟨h1, h2, h3, h4⟩ := hN
  cases le
  · rw [if_neg (by decide)]
    simp only [beN]
    refine ⟨?_, by omega, by omega⟩
    rw [P32_nat, if_neg (by decide), b4_rev h4 h3 h2 h1 _ (by omega)]
    exact hs
  · rw [if_pos rfl]
    simp only [leN]
    refine ⟨?_, by omega, by omega⟩
    rw [P32_nat, if_pos rfl, b4_rev h1 h2 h3 h4 _ (by omega)]
    exact hs
theorem b8_rev {x y z u x' y' z' u' : Nat} (h1 : x < 256) (h2 : y < 256) (h3 : z < 256) (h4 : u < 256) (h5 : x' < 256) (h6 : y' < 256) (h7 : z' < 256) (h8 : u' < 256) : ∀ V, V = x + 256 * (y + 256 * (z + 256 * (u + 256 * (x' + 256 * (y' + 256 * (z' + 256 * u')))))) → b8 V = [x, y, z, u, x', y', z', u'] := by
  intro V hV
  unfold b8
  have e1 : V % 256 = x := by omega
  have e2 : V / 256 % 256 = y := by omega
  have e3 : V / 65536 % 256 = z := by omega
  have e4 : V / 16777216 % 256 = u := by omega
  have e5 : V / 4294967296 % 256 = x' := by omega
  have e6 : V / 1099511627776 % 256 = y' := by omega
  have e7 : V / 281474976710656 % 256 = z' := by omega
  have e8 : V / 72057594037927936 % 256 = u' := by omega
  rw [e1, e2, e3, e4, e5, e6, e7, e8]
theorem w64_of (hb : Byt b) (h : a + 8 ≤ b.length) (le : Bool) : St b a (P64 [] (numB b a 8 le) le) ∧ 0 ≤ numB b a 8 le ∧ numB b a 8 le < 18446744073709551616 := by
  obtain ⟨N, e, hN, hl⟩ := byt_at hb 8 h
  rw [numB_nat 8 le hl hN (by decide) e]
  have hs : St b a (castsB N) := by rw [← e]; exact St.of_take 8
  obtain ⟨x, y, z, u, x', y', z', u', rfl⟩ := nat8 hl
  simp only [List.mem_cons, List.not_mem_nil, or_false, forall_eq_or_imp, forall_eq] at hN
  obtain ⟨h1, h2, h3, h4, h5, h6, h7, h8⟩ := hN
  cases le
  · rw [if_neg (by decide)]
    simp only [beN]
    refine ⟨?_, by omega, by omega⟩
    rw [P64_nat, if_neg (by decide), b8_rev h8 h7 h6 h5 h4 h3 h2 h1 _ (by omega)]
    exact hs
  · rw [if_pos rfl]
    simp only [leN]
    refine ⟨?_, by omega, by omega⟩
    rw [P64_nat, if_pos rfl, b8_rev h1 h2 h3 h4 h5 h6 h7 h8 _ (by omega)]
    exact hs
theorem w8_of (hb : Byt b) (h : a + 1 ≤ b.length) : St b a [numB b a 1 false] ∧ 0 ≤ numB b a 1 false ∧ numB b a 1 false < 256 := by
  obtain ⟨N, e, hN, hl⟩ := byt_at hb 1 h
  rw [numB_nat 1 false hl hN (by decide) e]
  have hs : St b a (castsB N) := by rw [← e]; exact St.of_take 1
  obtain ⟨x, rfl⟩ := List.length_eq_one_iff.1 hl
  have := hN x (List.mem_singleton_self x)
  rw [if_neg (by decide)]
  simp only [beN]
  refine ⟨?_, by omega, by omega⟩
  have e9 : 0 * 256 + x = x := by omega
  rw [e9]
  exact hs
end
end Go.Proofs.YtiiolhnpnlmkjaaDoor.Tree
