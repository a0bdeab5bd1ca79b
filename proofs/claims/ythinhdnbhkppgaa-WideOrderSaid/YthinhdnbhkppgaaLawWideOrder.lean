/- The row of the law plumb/plumblaw01.WideOrder: at every input it answers true, and its arguments read behind the call as before. No condition. -/
import Derived.Test.YthinhdnbhkppgaaRows
import Derived.Test.YthinhdnbhkppgaaPureWideOrder
import Derived.WalkKit
import Derived.ProofKit
import Derived.OpenShut
import Derived.ShutString
import Derived.ChangeOld
import Derived.Below
import Derived.SizedLaws
import Derived.Lib.SmallJoins
namespace Go.Proofs.Ythinhdnbhkppgaa.wideOrder
open Go.ChangeShapes Go.WideShapes Go.ChangeAt Go.RowKit Go.Joins
set_option linter.unusedVariables false
theorem own : ownKnob Try.prog.godebug = none := by kernel_rfl
theorem laidOut : laidOutB Try.prog = true := by kernel_rfl
theorem okWide_arr {P : Program} {w : World} {r : Reach} {base : Nat} {t e : TypeId} {n : Nat} {v : Value} (ht : P.underlying t = some (.array n e)) (h : Value.okWide P w r base t v) : ∃ cs, v = .agg cs ∧ cs.size = P.cellsOf t := by
  simp only [Value.okWide, ht] at h
  obtain ⟨cs, h1, h2, _⟩ := h
  exact ⟨cs, h1, h2⟩
theorem cells29 : Try.prog.cellsOf 29 = 2 := by kernel_rfl
theorem cellsE22 : Try.prog.cellsOf 22 = 1 := by kernel_rfl
set_option maxRecDepth 100000 in
theorem lifted (os : Os) (started : os.Started) (H : Type) (enc : TypeId × Value → H) :
    ReturnsInHanded {} Try.checked os 6 .any (Rows.wideOrderSpec.pre6 enc Try.prog Try.f6 Rows.wideOrderRow.domain false) (Rows.wideOrderSpec.post enc Try.prog Try.f6 false true false false) := by
  refine returnsInHanded_of_change_sized (C := Try.checked) own started (by kernel_rfl) Try.func6
    (ChangeSpec.witness6 (enc := enc) (C := Try.checked) false ⟨#[], #[.agg #[.int .u64 0, .int .u64 0], .agg #[.int .u64 0, .int .u64 0], .agg #[.int .u64 0, .int .u64 0]], []⟩ 8 (by kernel_rfl) (by kernel_rfl) (by kernel_rfl) (by kernel_rfl)) ?_
  intro W base args ds gs before hval0 hW hcnd hsz0 _
  have hval : ∀ (j : Nat) t v, Try.f6.params[j]? = some t → args[j]? = some v → Value.okWide Try.prog W .any base t v := hval0
  have hW' := hW
  obtain ⟨p, q, hA0, hV, rfl, hfz, hnd⟩ := hW
  have hA : DataW.TrodAll enc Try.prog W 0 (fun _ => true) true Try.f6.params.toList args.toList ds p := hA0
  rw [Try.params6] at hA hval
  obtain ⟨v0, vs0, d0, ds0, p0, q0, hargs, rfl, rfl, h0, r0⟩ := trodAll_cons hA
  obtain ⟨v1, vs1, d1, ds1, p1, q1, rfl, rfl, rfl, h1, r1⟩ := trodAll_cons r0
  obtain ⟨v2, vs2, d2, ds2, p2, q2, rfl, rfl, rfl, h2, r2⟩ := trodAll_cons r1
  obtain ⟨rfl, rfl, rfl⟩ := trodAll_nil r2
  obtain rfl : args = #[v0, v1, v2] := by cases args; simp_all
  obtain ⟨rfl, rfl⟩ := trodVars_none hV
  have k0 := h0
  have lt0 : ∀ x ∈ p0, x.block < W.heap.size := by obtain ⟨m, hm⟩ := k0; exact DataW.trod_lt m _ _ _ hm
  obtain ⟨cs0, rfl, hsz0⟩ := okWide_arr Try.underlying29 (hval 0 29 v0 rfl rfl)
  obtain ⟨fu0, hf0⟩ := h0
  have hf0' := hf0
  simp only [Value.cells] at hf0'
  obtain ⟨xs0, m0, rfl, hx0, hl0, hn0, he0⟩ := DataW.trod_array Try.underlying29 hf0'
  obtain ⟨c0_0, c0_1, rfl⟩ := array2 (hsz0.trans cells29)
  have g0_0 := he0 0 (by omega)
  rw [cellsE22] at g0_0
  have z0_0 : ∃ y, xs0[0]? = some y := ⟨_, List.getElem?_eq_getElem (by omega)⟩
  obtain ⟨y0_0, hy0_0⟩ := z0_0
  rw [hy0_0] at g0_0
  obtain ⟨a0_0, e0_0, _, w0_0⟩ := DataW.trod_int Try.underlying22 g0_0
  have g0_1 := he0 1 (by omega)
  rw [cellsE22] at g0_1
  have z0_1 : ∃ y, xs0[1]? = some y := ⟨_, List.getElem?_eq_getElem (by omega)⟩
  obtain ⟨y0_1, hy0_1⟩ := z0_1
  rw [hy0_1] at g0_1
  obtain ⟨a0_1, e0_1, _, w0_1⟩ := DataW.trod_int Try.underlying22 g0_1
  simp at e0_0 e0_1
  subst e0_0 e0_1
  have k1 := h1
  have lt1 : ∀ x ∈ p1, x.block < W.heap.size := by obtain ⟨m, hm⟩ := k1; exact DataW.trod_lt m _ _ _ hm
  obtain ⟨cs1, rfl, hsz1⟩ := okWide_arr Try.underlying29 (hval 1 29 v1 rfl rfl)
  obtain ⟨fu1, hf1⟩ := h1
  have hf1' := hf1
  simp only [Value.cells] at hf1'
  obtain ⟨xs1, m1, rfl, hx1, hl1, hn1, he1⟩ := DataW.trod_array Try.underlying29 hf1'
  obtain ⟨c1_0, c1_1, rfl⟩ := array2 (hsz1.trans cells29)
  have g1_0 := he1 0 (by omega)
  rw [cellsE22] at g1_0
  have z1_0 : ∃ y, xs1[0]? = some y := ⟨_, List.getElem?_eq_getElem (by omega)⟩
  obtain ⟨y1_0, hy1_0⟩ := z1_0
  rw [hy1_0] at g1_0
  obtain ⟨a1_0, e1_0, _, w1_0⟩ := DataW.trod_int Try.underlying22 g1_0
  have g1_1 := he1 1 (by omega)
  rw [cellsE22] at g1_1
  have z1_1 : ∃ y, xs1[1]? = some y := ⟨_, List.getElem?_eq_getElem (by omega)⟩
  obtain ⟨y1_1, hy1_1⟩ := z1_1
  rw [hy1_1] at g1_1
  obtain ⟨a1_1, e1_1, _, w1_1⟩ := DataW.trod_int Try.underlying22 g1_1
  simp at e1_0 e1_1
  subst e1_0 e1_1
  have k2 := h2
  have lt2 : ∀ x ∈ p2, x.block < W.heap.size := by obtain ⟨m, hm⟩ := k2; exact DataW.trod_lt m _ _ _ hm
  obtain ⟨cs2, rfl, hsz2⟩ := okWide_arr Try.underlying29 (hval 2 29 v2 rfl rfl)
  obtain ⟨fu2, hf2⟩ := h2
  have hf2' := hf2
  simp only [Value.cells] at hf2'
  obtain ⟨xs2, m2, rfl, hx2, hl2, hn2, he2⟩ := DataW.trod_array Try.underlying29 hf2'
  obtain ⟨c2_0, c2_1, rfl⟩ := array2 (hsz2.trans cells29)
  have g2_0 := he2 0 (by omega)
  rw [cellsE22] at g2_0
  have z2_0 : ∃ y, xs2[0]? = some y := ⟨_, List.getElem?_eq_getElem (by omega)⟩
  obtain ⟨y2_0, hy2_0⟩ := z2_0
  rw [hy2_0] at g2_0
  obtain ⟨a2_0, e2_0, _, w2_0⟩ := DataW.trod_int Try.underlying22 g2_0
  have g2_1 := he2 1 (by omega)
  rw [cellsE22] at g2_1
  have z2_1 : ∃ y, xs2[1]? = some y := ⟨_, List.getElem?_eq_getElem (by omega)⟩
  obtain ⟨y2_1, hy2_1⟩ := z2_1
  rw [hy2_1] at g2_1
  obtain ⟨a2_1, e2_1, _, w2_1⟩ := DataW.trod_int Try.underlying22 g2_1
  simp at e2_0 e2_1
  subst e2_0 e2_1
  clear hA0 hval0 hsz0
  refine (Pure.WideOrder a0_0 a0_1 a1_0 a1_1 a2_0 a2_1 w0_0 w0_1 w1_0 w1_1 w2_0 w2_1 W).mono fun e W' ⟨he, bel⟩ => ?_
  subst he
  exact ⟨_, rfl, _, _, _, [], _, [], hW', trodAll_mk1 (shut_bool Try.underlying4 _), (trodAll_cons_mk (Below.trod laidOut (by kernel_rfl) (of_decide_eq_true (by kernel_rfl)) k0 bel lt0) (trodAll_cons_mk (Below.trod laidOut (by kernel_rfl) (of_decide_eq_true (by kernel_rfl)) k1 bel lt1) (trodAll_cons_mk (Below.trod laidOut (by kernel_rfl) (of_decide_eq_true (by kernel_rfl)) k2 bel lt2) trodAll_mk0))), rfl, bel.frame _, fun h => by cases h⟩
theorem over : Rows.wideOrderRow.holds Try.pinned (OpenSpec.ofChange Rows.wideOrderSpec) :=
  OpenClaim.holds_of_wide 6 Try.f6 rfl rfl rfl rfl rfl rfl rfl ⟨rfl, rfl, rfl, rfl, rfl⟩ rfl rfl rfl rfl rfl (by kernel_rfl) Try.func6 (by kernel_rfl)
    (of_decide_eq_true (by kernel_rfl)) (by unfold Func.isWrapper; first | (rw [if_pos (by decide +kernel)]; kernel_rfl) | (rw [if_neg (by decide +kernel)]; exact ⟨rfl, rfl⟩))
    (fun os started H enc _ => lifted os started H enc)
theorem proved : Rows.WideOrderSaid := over
end Go.Proofs.Ythinhdnbhkppgaa.wideOrder
namespace Go.Proofs.Ythinhdnbhkppgaa
/-- The row, under a short name, for the claim. -/
theorem wideOrder_holds : Rows.WideOrderSaid := wideOrder.proved
end Go.Proofs.Ythinhdnbhkppgaa
