/- The row of TreePuts in the second form. -/
import Derived.Test.YtmcbniobbbjdjaaTLawPuts
import Derived.Test.YtmcbniobbbjdjaaTOpen
import Derived.WalkKit
import Derived.ProofKit
import Derived.OpenShut
import Derived.JoinedCond
import Derived.Carry
namespace Go.Proofs.Ytmcbniobbbjdjaa.treePuts
open Go.ChangeShapes Go.WideShapes Go.ChangeAt Go.RowKit Go.Proofs.Ytmcbniobbbjdjaa.Tree
theorem own : ownKnob Try.prog.godebug = none := by kernel_rfl
theorem laidOut : laidOutB Try.prog = true := by kernel_rfl
theorem cellsInt : Try.prog.cellsOf 3 = 1 := by kernel_rfl
theorem list1 {α : Type} : ∀ {l : List α}, l.length = 1 → ∃ a, l = [a]
  | [a], _ => ⟨a, rfl⟩
theorem open_int {H : Type} {enc : TypeId × Value → H} {W : World} {base : Nat} {sp : Nat → Bool} {held : Bool} {n : Nat} {cs : List Value} {y : DataW H × List MemPlace} (h : DataW.trod enc Try.prog W base sp held n 3 cs = some y) : ∃ i : Int, (Go.Proofs.YtmcbniobbbjdjaaW.PrintWords.Kd.int .i64).K W i cs ∧ 1 ≤ Rows.uptoBulk y.1 := by
  obtain ⟨a, ea, _⟩ := DataW.trod_int Try.underlying3 h
  exact ⟨a, ea, one_le _⟩
set_option maxRecDepth 100000 in
set_option maxHeartbeats 4000000 in
theorem contract (H : Type) (enc : TypeId × Value → H) (W : World) (args : Array Value) (ds gs : List (DataW H)) (before : List MemPlace) (b0 : Nat) (hval : ∀ (j : Nat) t v, Try.f6.params[j]? = some t → args[j]? = some v → Value.okWide Try.prog W .any b0 t v)
    (hW : DataW.Whole enc Try.prog Try.f6.params.toList Rows.treePutsSpec.vars false W args.toList ds gs before) (hk : Rows.uptoSmall H (ds ++ gs) = true) :
    Calls Try.prog 6 args W fun e W' => ∃ v, e = .returned v ∧ Rows.treePutsSpec.post enc Try.prog Try.f6 false true false false W args v W' := by
  have hW' := hW
  obtain ⟨p, q, hA0, hV, rfl, hfz, hnd⟩ := hW
  have hA : DataW.TrodAll enc Try.prog W 0 (fun _ => true) true Try.f6.params.toList args.toList ds p := hA0
  rw [Try.params6] at hA
  obtain ⟨v0, vs0, d0, ds0, p0, q0, hargs, rfl, rfl, h0, r0⟩ := trodAll_cons hA
  obtain ⟨v1, vs1, d1, ds1, p1, q1, rfl, rfl, rfl, h1, r1⟩ := trodAll_cons r0
  obtain ⟨v2, vs2, d2, ds2, p2, q2, rfl, rfl, rfl, h2, r2⟩ := trodAll_cons r1
  obtain ⟨v3, vs3, d3, ds3, p3, q3, rfl, rfl, rfl, h3, r3⟩ := trodAll_cons r2
  obtain ⟨rfl, rfl, rfl⟩ := trodAll_nil r3
  obtain rfl : args = #[v0, v1, v2, v3] := by cases args; simp_all
  obtain ⟨rfl, rfl⟩ := trodVars_none hV
  have k0 := h0
  obtain ⟨fuel0, hf0⟩ := h0
  obtain ⟨g0, hK0, hb0⟩ := open_ge fuel0 _ _ hf0
  have lt0 : ∀ x ∈ p0, x.block < W.heap.size := by obtain ⟨m, hm⟩ := k0; exact DataW.trod_lt m _ _ _ hm
  have k1 := h1
  obtain ⟨fuel1, hf1⟩ := h1
  obtain ⟨A1, c1, l1, e1, n1, s1, hb1⟩ := open_row (Go.Proofs.YtmcbniobbbjdjaaW.PrintWords.Kd.int .i64) (fun _ => 1) (t := 27) (e := 3) Try.underlying27 cellsInt (fun m' cs y _ h => open_int h) hf1
  rw [sum_one] at hb1
  obtain ⟨a0_, len_, cap_, rfl⟩ := okWide_slice Try.underlying27 (hval 1 27 v1 (by rw [Try.params6]; rfl) rfl)
  obtain ⟨rfl, rfl, rfl⟩ : A1 = a0_ ∧ l1.length = len_ ∧ c1 = cap_ := by
    have e9 : [Value.slice a0_ len_ cap_] = [Value.slice A1 l1.length c1] := e1
    cases e9
    exact ⟨rfl, rfl, rfl⟩
  have lt1 : ∀ x ∈ p1, x.block < W.heap.size := by obtain ⟨m, hm⟩ := k1; exact DataW.trod_lt m _ _ _ hm
  have k2 := h2
  obtain ⟨fuel2, hf2⟩ := h2
  obtain ⟨A2, c2, l2, e2, n2, s2, hb2⟩ := open_row (Go.Proofs.YtmcbniobbbjdjaaW.PrintWords.Kd.int .i64) (fun _ => 1) (t := 27) (e := 3) Try.underlying27 cellsInt (fun m' cs y _ h => open_int h) hf2
  rw [sum_one] at hb2
  obtain ⟨a0_, len_, cap_, rfl⟩ := okWide_slice Try.underlying27 (hval 2 27 v2 (by rw [Try.params6]; rfl) rfl)
  obtain ⟨rfl, rfl, rfl⟩ : A2 = a0_ ∧ l2.length = len_ ∧ c2 = cap_ := by
    have e9 : [Value.slice a0_ len_ cap_] = [Value.slice A2 l2.length c2] := e2
    cases e9
    exact ⟨rfl, rfl, rfl⟩
  have lt2 : ∀ x ∈ p2, x.block < W.heap.size := by obtain ⟨m, hm⟩ := k2; exact DataW.trod_lt m _ _ _ hm
  have k3 := h3
  obtain ⟨fuel3, hf3⟩ := h3
  obtain ⟨g3, hK3, hb3⟩ := open_ge fuel3 _ _ hf3
  have lt3 : ∀ x ∈ p3, x.block < W.heap.size := by obtain ⟨m, hm⟩ := k3; exact DataW.trod_lt m _ _ _ hm
  have hsum : Rows.uptoBulkAll ([d0, d1, d2, d3] ++ []) ≤ 1048576 := of_decide_eq_true hk
  simp only [List.append_nil, Rows.uptoBulkAll] at hsum
  have hbk0 : g0.bulk ≤ 1048576 := by
    have hb' : g0.bulk ≤ Rows.uptoBulk d0 := hb0
    omega
  have hv0 : IsG W v0 g0 := by
    have hl := kGe.K_len hK0
    have h4 : kGe.sz = 4 := rfl
    rw [h4] at hl
    cases v0 <;> first | (simp [Value.cells] at hl; done) | skip
    rename_i cs
    have := IsG.of hK0
    simpa [Value.cells] using this
  have hbk1 : l1.length ≤ 1048576 := by
    have hb' : l1.length + 1 ≤ Rows.uptoBulk d1 := hb1
    omega
  have hbk2 : l2.length ≤ 1048576 := by
    have hb' : l2.length + 1 ≤ Rows.uptoBulk d2 := hb2
    omega
  have hbk3 : g3.bulk ≤ 1048576 := by
    have hb' : g3.bulk ≤ Rows.uptoBulk d3 := hb3
    omega
  have hv3 : IsG W v3 g3 := by
    have hl := kGe.K_len hK3
    have h4 : kGe.sz = 4 := rfl
    rw [h4] at hl
    cases v3 <;> first | (simp [Value.cells] at hl; done) | skip
    rename_i cs
    have := IsG.of hK3
    simpa [Value.cells] using this
  have hall : g0.bulk + l1.length + l2.length + g3.bulk ≤ 1048576 := by
    have hb0' : g0.bulk ≤ Rows.uptoBulk d0 := hb0
    have hb1' : l1.length + 1 ≤ Rows.uptoBulk d1 := hb1
    have hb2' : l2.length + 1 ≤ Rows.uptoBulk d2 := hb2
    have hb3' : g3.bulk ≤ Rows.uptoBulk d3 := hb3
    omega
  clear hA0
  refine (puts_calls v0 v3 g0 g3 A1 A2 c1 c2 l1 l2 W hv0 hv3 s1 s2 n1 hall).mono fun e W' ⟨he, bel⟩ => ?_
  subst he
  exact ⟨_, rfl, _, _, _, [], _, [], hW', trodAll_mk1 (shut_bool Try.underlying4 _), (trodAll_cons_mk (Below.trod laidOut (by kernel_rfl) (of_decide_eq_true (by kernel_rfl)) k0 bel lt0) (trodAll_cons_mk (Below.trod laidOut (by kernel_rfl) (of_decide_eq_true (by kernel_rfl)) k1 bel lt1) (trodAll_cons_mk (Below.trod laidOut (by kernel_rfl) (of_decide_eq_true (by kernel_rfl)) k2 bel lt2) (trodAll_cons_mk (Below.trod laidOut (by kernel_rfl) (of_decide_eq_true (by kernel_rfl)) k3 bel lt3) trodAll_mk0)))), rfl, bel.frame _, fun h => by cases h⟩
set_option maxRecDepth 100000 in
theorem lifted (os : Os) (started : os.Started) (H : Type) (enc : TypeId × Value → H) (F : Stop.Interp) :
    ReturnsInHanded {} Try.checked os 6 .any ((Rows.OpenSpec.upto Rows.treePutsSpec).pre6 enc Try.prog Try.f6 Rows.treePutsUptoRow.domain false) (((Rows.OpenSpec.upto Rows.treePutsSpec).at F).post enc Try.prog Try.f6 false true false false) := by
  refine returnsInHanded_of_cond (C := Try.checked) (s := Rows.OpenSpec.upto Rows.treePutsSpec) (k := Rows.uptoSmall) rfl own started (by kernel_rfl) Try.func6
    (OpenSpec.witness (enc := enc) (C := Try.checked) (s := Rows.OpenSpec.upto Rows.treePutsSpec) (k := Rows.uptoSmall) rfl false ⟨#[], #[.agg #[.int .i64 0, .slice none 0 0, .slice none 0 0, .slice none 0 0], .slice none 0 0, .slice none 0 0, .agg #[.int .i64 0, .slice none 0 0, .slice none 0 0, .slice none 0 0]], []⟩ 8 (by kernel_rfl) (by kernel_rfl) (by kernel_rfl)
      (x := ([.agg [.lit (.int .i64 0), .nil, .nil, .nil], .nil, .nil, .agg [.lit (.int .i64 0), .nil, .nil, .nil]], [], [])) (by kernel_rfl) rfl (by kernel_rfl)) ?_
  intro W base args ds gs before hval hW _ hk _
  exact contract H enc W args ds gs before base hval hW hk
theorem said : Rows.TreePutsUptoSaid :=
  OpenClaim.holds_of_cond 6 Try.f6 rfl rfl rfl rfl rfl rfl rfl ⟨rfl, rfl, rfl, rfl, rfl⟩ rfl rfl rfl rfl rfl (by kernel_rfl) Try.func6 (by kernel_rfl)
    (of_decide_eq_true (by kernel_rfl)) (by unfold Func.isWrapper; first | (rw [if_pos (by decide +kernel)]; kernel_rfl) | (rw [if_neg (by decide +kernel)]; exact ⟨rfl, rfl⟩))
    (fun os started H enc _ F => lifted os started H enc F)
end Go.Proofs.Ytmcbniobbbjdjaa.treePuts
namespace Go.Proofs.Ytmcbniobbbjdjaa
theorem treePuts_holds : Rows.TreePutsUptoSaid := treePuts.said
end Go.Proofs.Ytmcbniobbbjdjaa
