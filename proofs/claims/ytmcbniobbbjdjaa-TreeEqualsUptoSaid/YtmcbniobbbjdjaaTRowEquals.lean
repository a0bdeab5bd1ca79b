/- The row of TreeEquals in the second form. -/
import Derived.Test.YtmcbniobbbjdjaaTLawEquals
import Derived.Test.YtmcbniobbbjdjaaTOpen
import Derived.WalkKit
import Derived.ProofKit
import Derived.OpenShut
import Derived.JoinedCond
import Derived.Carry
namespace Go.Proofs.Ytmcbniobbbjdjaa.treeEquals
open Go.ChangeShapes Go.WideShapes Go.ChangeAt Go.RowKit Go.Proofs.Ytmcbniobbbjdjaa.Tree
theorem own : ownKnob Try.prog.godebug = none := by kernel_rfl
theorem laidOut : laidOutB Try.prog = true := by kernel_rfl
theorem contract (H : Type) (enc : TypeId × Value → H) (W : World) (args : Array Value) (ds gs : List (DataW H)) (before : List MemPlace)
    (hW : DataW.Whole enc Try.prog Try.f5.params.toList Rows.treeEqualsSpec.vars false W args.toList ds gs before) (hk : Rows.uptoSmall H (ds ++ gs) = true) :
    Calls Try.prog 5 args W fun e W' => ∃ v, e = .returned v ∧ Rows.treeEqualsSpec.post enc Try.prog Try.f5 false true false false W args v W' := by
  have hW' := hW
  obtain ⟨p, q, hA0, hV, rfl, hfz, hnd⟩ := hW
  have hA : DataW.TrodAll enc Try.prog W 0 (fun _ => true) true Try.f5.params.toList args.toList ds p := hA0
  rw [Try.params5] at hA
  obtain ⟨v0, vs0, d0, ds0, p0, q0, hargs, rfl, rfl, h0, r0⟩ := trodAll_cons hA
  obtain ⟨v1, vs1, d1, ds1, p1, q1, rfl, rfl, rfl, h1, r1⟩ := trodAll_cons r0
  obtain ⟨rfl, rfl, rfl⟩ := trodAll_nil r1
  obtain rfl : args = #[v0, v1] := by cases args; simp_all
  obtain ⟨rfl, rfl⟩ := trodVars_none hV
  have k0 := h0
  obtain ⟨fuel0, hf0⟩ := h0
  obtain ⟨g0, hK0, hb0⟩ := open_ge fuel0 _ _ hf0
  have lt0 : ∀ x ∈ p0, x.block < W.heap.size := by obtain ⟨m, hm⟩ := k0; exact DataW.trod_lt m _ _ _ hm
  have k1 := h1
  obtain ⟨fuel1, hf1⟩ := h1
  obtain ⟨g1, hK1, hb1⟩ := open_ge fuel1 _ _ hf1
  have lt1 : ∀ x ∈ p1, x.block < W.heap.size := by obtain ⟨m, hm⟩ := k1; exact DataW.trod_lt m _ _ _ hm
  have hsum : Rows.uptoBulkAll ([d0, d1] ++ []) ≤ 1048576 := of_decide_eq_true hk
  simp only [List.append_nil, Rows.uptoBulkAll] at hsum
  have hbk0 : g0.bulk ≤ 1048576 := by
    have hb' : g0.bulk ≤ Rows.uptoBulk d0 := hb0
    omega
  have hv0 : IsG W v0 g0 := by
    have hl := kGe.K_len hK0
    have h4 : kGe.sz = 4 := rfl
    rw [h4] at hl
    cases v0 <;> first | (simp [Value.cells] at hl; done) | skip
    rename_i cs
    have := IsG.of hK0
    simpa [Value.cells] using this
  have hbk1 : g1.bulk ≤ 1048576 := by
    have hb' : g1.bulk ≤ Rows.uptoBulk d1 := hb1
    omega
  have hv1 : IsG W v1 g1 := by
    have hl := kGe.K_len hK1
    have h4 : kGe.sz = 4 := rfl
    rw [h4] at hl
    cases v1 <;> first | (simp [Value.cells] at hl; done) | skip
    rename_i cs
    have := IsG.of hK1
    simpa [Value.cells] using this
  have hall : g0.bulk + g1.bulk ≤ 1048576 := by
    have hb0' : g0.bulk ≤ Rows.uptoBulk d0 := hb0
    have hb1' : g1.bulk ≤ Rows.uptoBulk d1 := hb1
    omega
  clear hA0
  refine (equals_calls v0 v1 g0 g1 W hv0 hv1 hbk0 hbk1).mono fun e W' ⟨he, bel⟩ => ?_
  subst he
  exact ⟨_, rfl, _, _, _, [], _, [], hW', trodAll_mk1 (shut_bool Try.underlying4 _), (trodAll_cons_mk (Below.trod laidOut (by kernel_rfl) (of_decide_eq_true (by kernel_rfl)) k0 bel lt0) (trodAll_cons_mk (Below.trod laidOut (by kernel_rfl) (of_decide_eq_true (by kernel_rfl)) k1 bel lt1) trodAll_mk0)), rfl, bel.frame _, fun h => by cases h⟩
set_option maxRecDepth 100000 in
theorem lifted (os : Os) (started : os.Started) (H : Type) (enc : TypeId × Value → H) (F : Stop.Interp) :
    ReturnsInHanded {} Try.checked os 5 .any ((Rows.OpenSpec.upto Rows.treeEqualsSpec).pre6 enc Try.prog Try.f5 Rows.treeEqualsUptoRow.domain false) (((Rows.OpenSpec.upto Rows.treeEqualsSpec).at F).post enc Try.prog Try.f5 false true false false) := by
  refine returnsInHanded_of_cond (C := Try.checked) (s := Rows.OpenSpec.upto Rows.treeEqualsSpec) (k := Rows.uptoSmall) rfl own started (by kernel_rfl) Try.func5
    (OpenSpec.witness (enc := enc) (C := Try.checked) (s := Rows.OpenSpec.upto Rows.treeEqualsSpec) (k := Rows.uptoSmall) rfl false ⟨#[], #[.agg #[.int .i64 0, .slice none 0 0, .slice none 0 0, .slice none 0 0], .agg #[.int .i64 0, .slice none 0 0, .slice none 0 0, .slice none 0 0]], []⟩ 8 (by kernel_rfl) (by kernel_rfl) (by kernel_rfl)
      (x := ([.agg [.lit (.int .i64 0), .nil, .nil, .nil], .agg [.lit (.int .i64 0), .nil, .nil, .nil]], [], [])) (by kernel_rfl) rfl (by kernel_rfl)) ?_
  intro W base args ds gs before hval hW _ hk _
  exact contract H enc W args ds gs before hW hk
theorem said : Rows.TreeEqualsUptoSaid :=
  OpenClaim.holds_of_cond 5 Try.f5 rfl rfl rfl rfl rfl rfl rfl ⟨rfl, rfl, rfl, rfl, rfl⟩ rfl rfl rfl rfl rfl (by kernel_rfl) Try.func5 (by kernel_rfl)
    (of_decide_eq_true (by kernel_rfl)) (by unfold Func.isWrapper; first | (rw [if_pos (by decide +kernel)]; kernel_rfl) | (rw [if_neg (by decide +kernel)]; exact ⟨rfl, rfl⟩))
    (fun os started H enc _ F => lifted os started H enc F)
end Go.Proofs.Ytmcbniobbbjdjaa.treeEquals
namespace Go.Proofs.Ytmcbniobbbjdjaa
theorem treeEquals_holds : Rows.TreeEqualsUptoSaid := treeEquals.said
end Go.Proofs.Ytmcbniobbbjdjaa
