/- The row of WkbPrints in the second form. -/
import Derived.Test.YtiiolhnpnlmkjaaDoorTLawPrints
import Derived.Test.YtiiolhnpnlmkjaaDoorTOpen
import Derived.WalkKit
import Derived.ProofKit
import Derived.OpenShut
import Derived.JoinedCond
import Derived.Carry
import Derived.LaidLaws
import Derived.LaidHandle
import Derived.JoinedOf
import Derived.Deep.DeepHandedRow
import Derived.SevenTiedAt
import Derived.Test.YtiiolhnpnlmkjaaDoorTie
import Derived.Test.YtiiolhnpnlmkjaaDoorCards
import Derived.Test.YtiiolhnpnlmkjaaDoorTErrs
namespace Go.Proofs.YtiiolhnpnlmkjaaDoor.wkbPrints
open Go.ChangeShapes Go.WideShapes Go.ChangeAt Go.RowKit Go.Proofs.YtiiolhnpnlmkjaaDoor.Tree
theorem own : ownKnob Tryd.prog.godebug = none := by kernel_rfl
theorem laidOut : laidOutB Tryd.prog = true := by kernel_rfl
theorem et : Tryd.prog.globalNamed "errors.errorType" = some 0 := by kernel_rfl
theorem rt : (Tryd.prog.cutTypes.find? (·.1 == "internal/reflectlite.rtype")).map (·.2) = some 182 := by kernel_rfl
theorem oneRow : ((List.range 228).filter fun t => Tryd.prog.rowNamed t [101, 114, 114, 111, 114]) = [32] := by kernel_rfl
theorem size : Tryd.prog.types.size = 228 := by kernel_rfl
/-- What the row's condition gives a walk: the variable's one cell. -/
theorem handle_of_laid {W : World} (h : laidMetH Tryd.prog [("errors.errorType", Rows.laid_errors_errorType)] W) : Handle W := by
  have h' : laidMet Tryd.prog [] W ∧ handlesMet Tryd.prog [("errors.errorType", Rows.laid_errors_errorType)] W := h
  obtain ⟨name, u, ty, e1, e2, e3, e4, e5⟩ := h'.2 _ (List.mem_singleton.2 rfl)
  have en : name = [101, 114, 114, 111, 114] := (Option.some.inj e1).symm
  subst en
  obtain rfl := Option.some.inj (rt.symm.trans e2)
  have hm : ty ∈ (List.range 228).filter fun t => Tryd.prog.rowNamed t [101, 114, 114, 111, 114] := List.mem_filter.2 ⟨List.mem_range.2 (by rw [← size]; exact e3), e4⟩
  rw [oneRow] at hm
  obtain rfl := List.mem_singleton.1 hm
  have hh : typeHandle Tryd.prog 32 = .pointer (some ⟨1, 32, none⟩) := by kernel_rfl
  rw [hh] at e5
  have := World.var?_cell et e5 0
  simpa [Handle] using this
/-- A world that meets the condition. -/
noncomputable def laidWorld (os : Os) : World :=
  let w0 := World.holding Tryd.prog os ⟨#[], #[], []⟩
  { w0 with heap := w0.heap.modify 0 fun
      | .cells _ t frozen => .cells #[.iface 182 (.agg #[.pointer (some ⟨1, 32, none⟩)])] t frozen
      | o => o }
theorem laidWorld_met (os : Os) (args : Array Value) : laidMetH Tryd.prog [("errors.errorType", Rows.laid_errors_errorType)] ((laidWorld os).forCall (fun _ _ => 0) ⟨#[], args, []⟩).memory :=
  laidMetH_of_parts (laidMet_nil _ _) (by kernel_rfl)
theorem cellsBool : Tryd.prog.cellsOf 4 = 1 := by kernel_rfl
theorem open_b {H : Type} {enc : TypeId × Value → H} {W : World} {base : Nat} {sp : Nat → Bool} {held : Bool} {n : Nat} {cs : List Value} {y : DataW H × List MemPlace} (h : DataW.trod enc Tryd.prog W base sp held n 4 cs = some y) : ∃ b : Bool, Go.Proofs.YtiiolhnpnlmkjaaDoorW.PrintWords.Kd.bool.K W b cs ∧ 1 ≤ Rows.uptoBulk y.1 := by
  obtain ⟨a, ea, _⟩ := DataW.trod_bool Tryd.underlying4 h
  exact ⟨a, ea, one_le _⟩
set_option maxRecDepth 100000 in
set_option maxHeartbeats 4000000 in
theorem contract (H : Type) (enc : TypeId × Value → H) (W : World) (args : Array Value) (ds gs : List (DataW H)) (before : List MemPlace) (b0 : Nat) (hval : ∀ (j : Nat) t v, Tryd.f4.params[j]? = some t → args[j]? = some v → Value.okWide Tryd.prog W .any b0 t v)
    (hW : DataW.Whole enc Tryd.prog Tryd.f4.params.toList Rows.wkbPrintsSpec.vars false W args.toList ds gs before) (hk : Rows.uptoSmall H (ds ++ gs) = true) (hL : laidMetH Tryd.prog [("errors.errorType", Rows.laid_errors_errorType)] W) :
    Calls Tryd.prog 4 args W fun e W' => ∃ v, e = .returned v ∧ Rows.wkbPrintsSpec.post enc Tryd.prog Tryd.f4 false true false false W args v W' := by
  have hW' := hW
  obtain ⟨p, q, hA0, hV, rfl, hfz, hnd⟩ := hW
  have hA : DataW.TrodAll enc Tryd.prog W 0 (fun _ => true) true Tryd.f4.params.toList args.toList ds p := hA0
  rw [Tryd.params4] at hA
  obtain ⟨v0, vs0, d0, ds0, p0, q0, hargs, rfl, rfl, h0, r0⟩ := trodAll_cons hA
  obtain ⟨v1, vs1, d1, ds1, p1, q1, rfl, rfl, rfl, h1, r1⟩ := trodAll_cons r0
  obtain ⟨v2, vs2, d2, ds2, p2, q2, rfl, rfl, rfl, h2, r2⟩ := trodAll_cons r1
  obtain ⟨rfl, rfl, rfl⟩ := trodAll_nil r2
  obtain rfl : args = #[v0, v1, v2] := by cases args; simp_all
  obtain ⟨rfl, rfl⟩ := trodVars_none hV
  have k0 := h0
  obtain ⟨fuel0, hf0⟩ := h0
  obtain ⟨g0, hK0, hb0⟩ := open_ge fuel0 _ _ hf0
  have lt0 : ∀ x ∈ p0, x.block < W.heap.size := by obtain ⟨m, hm⟩ := k0; exact DataW.trod_lt m _ _ _ hm
  obtain ⟨a1, rfl, rfl, rfl⟩ := open_bool Tryd.underlying4 (hval 1 4 v1 (by rw [Tryd.params4]; rfl) rfl) h1
  have k2 := h2
  obtain ⟨fuel2, hf2⟩ := h2
  obtain ⟨A2, c2, l2, e2, n2, s2, hb2⟩ := open_row Go.Proofs.YtiiolhnpnlmkjaaDoorW.PrintWords.Kd.bool (fun _ => 1) (t := 37) (e := 4) Tryd.underlying37 cellsBool (fun m' cs y _ h => open_b h) hf2
  rw [sum_one] at hb2
  obtain ⟨a0_, len_, cap_, rfl⟩ := okWide_slice Tryd.underlying37 (hval 2 37 v2 (by rw [Tryd.params4]; rfl) rfl)
  obtain ⟨rfl, rfl, rfl⟩ : A2 = a0_ ∧ l2.length = len_ ∧ c2 = cap_ := by
    have e9 : [Value.slice a0_ len_ cap_] = [Value.slice A2 l2.length c2] := e2
    cases e9
    exact ⟨rfl, rfl, rfl⟩
  have lt2 : ∀ x ∈ p2, x.block < W.heap.size := by obtain ⟨m, hm⟩ := k2; exact DataW.trod_lt m _ _ _ hm
  have hsum : Rows.uptoBulkAll ([d0, .lit (.bool a1), d2] ++ []) ≤ 1048576 := of_decide_eq_true hk
  simp only [List.append_nil, Rows.uptoBulkAll] at hsum
  have hbk0 : g0.bulk ≤ 1048576 := by
    have hb' : g0.bulk ≤ Rows.uptoBulk d0 := hb0
    omega
  have hv0 : IsG W v0 g0 := by
    have hl := kGe.K_len hK0
    have h4 : kGe.sz = 4 := rfl
    rw [h4] at hl
    cases v0 <;> first | (simp [Value.cells] at hl; done) | skip
    rename_i cs
    have := IsG.of hK0
    simpa [Value.cells] using this
  have hbk2 : l2.length ≤ 1048576 := by
    have hb' : l2.length + 1 ≤ Rows.uptoBulk d2 := hb2
    omega
  clear hA0
  have hh : Handle W := handle_of_laid hL
  refine (prints_calls v0 g0 a1 A2 c2 l2 W hh hv0 s2 hbk0 hbk2).mono fun e W' ⟨he, bel⟩ => ?_
  subst he
  exact ⟨_, rfl, _, _, _, [], _, [], hW', trodAll_mk1 (shut_bool Tryd.underlying4 _), (trodAll_cons_mk (Below.trod laidOut (by kernel_rfl) (of_decide_eq_true (by kernel_rfl)) k0 bel lt0) (trodAll_cons_mk (shut_bool Tryd.underlying4 _) (trodAll_cons_mk (Below.trod laidOut (by kernel_rfl) (of_decide_eq_true (by kernel_rfl)) k2 bel lt2) trodAll_mk0))), rfl, bel.frame _, fun h => by cases h⟩
theorem reads (os : Os) {H : Type} (enc : TypeId × Value → H) : ∃ places, DataW.whole enc Tryd.prog ((laidWorld os).forCall (fun _ _ => 0) ⟨#[], #[.agg #[.int .i64 0, .slice none 0 0, .slice none 0 0, .slice none 0 0], .bool false, .slice none 0 0], []⟩).memory Tryd.f4.params.toList Rows.wkbPrintsSpec.vars false (#[.agg #[.int .i64 0, .slice none 0 0, .slice none 0 0, .slice none 0 0], .bool false, .slice none 0 0] : Array Value).toList 8 = some ([.agg [.lit (.int .i64 0), .nil, .nil, .nil], .lit (.bool false), .nil], [], places) :=
  ⟨[], by kernel_rfl⟩
set_option maxRecDepth 100000 in
theorem liftedUpto (os : Os) (started : os.Started) (H : Type) (enc : TypeId × Value → H) (F : Stop.Interp) :
    ReturnsInHanded {} Tryd.checked os 4 .any ((Rows.OpenSpec.upto Rows.wkbPrintsSpec).preRow enc Tryd.prog Tryd.f4 Rows.wkbPrintsUptoRow.domain false Rows.wkbPrintsUptoRow.laid) (((Rows.OpenSpec.upto Rows.wkbPrintsSpec).at F).post enc Tryd.prog Tryd.f4 false true false false) := by
  obtain ⟨places, hx⟩ := reads os enc
  refine returnsInHanded_of_row (C := Tryd.checked) (s := Rows.OpenSpec.upto Rows.wkbPrintsSpec) own started (by kernel_rfl) Tryd.func4
    (witness_row_at (enc := enc) (C := Tryd.checked) false (laidWorld os) #[.agg #[.int .i64 0, .slice none 0 0, .slice none 0 0, .slice none 0 0], .bool false, .slice none 0 0] rfl (by kernel_rfl) (by kernel_rfl) (by kernel_rfl)
      (OpenSpec.preRow_of_cond 8 hx (by kernel_rfl) (fun k hk => by cases hk; kernel_rfl) (by kernel_rfl) (laidWorld_met os _))) ?_
  intro W base args ds gs before hval hW _ hcond _ hL _ _
  exact contract H enc W args ds gs before base hval hW (hcond _ rfl) hL
theorem saidUpto : Rows.WkbPrintsUptoSaid :=
  OpenClaim.holds_of_cond 4 Tryd.f4 rfl rfl rfl rfl rfl rfl rfl ⟨rfl, rfl, rfl, rfl, rfl⟩ rfl rfl rfl rfl rfl (by kernel_rfl) Tryd.func4 (by kernel_rfl)
    (of_decide_eq_true (by kernel_rfl)) (by unfold Func.isWrapper; first | (rw [if_pos (by decide +kernel)]; kernel_rfl) | (rw [if_neg (by decide +kernel)]; exact ⟨rfl, rfl⟩))
    (fun os started H enc _ F => by rw [OpenClaim.pre_eq_preRow]; exact liftedUpto os started H enc F)
theorem plain (f : FuncId) (fn : Func) (hf : Tryd.pinned.checked.prog.funcNamed "plumb/plumblaw17.WkbPrints" = some f) (hfn : Tryd.pinned.checked.prog.funcs[f]? = some fn) :
    true = Tryd.pinned.checked.prog.looks [] ∧ ∀ (j : Nat) t, fn.params[j]? = some t → Tryd.pinned.checked.prog.wantsStandIn t = false := by
  obtain rfl : f = 4 := Option.some.inj ((show Tryd.prog.funcNamed "plumb/plumblaw17.WkbPrints" = some 4 by kernel_rfl).symm.trans hf) |>.symm
  obtain rfl : fn = Tryd.f4 := (Option.some.inj (Tryd.func4.symm.trans hfn)).symm
  refine ⟨by kernel_rfl, fun j t ht => ?_⟩
  rw [Tryd.params4] at ht
  have hm : t ∈ [28, 4, 37] := by
    have := Array.mem_of_getElem? ht
    simpa using this
  simp only [List.mem_cons, List.not_mem_nil, or_false] at hm
  rcases hm with rfl | rfl | rfl
  · exact (show Tryd.prog.wantsStandIn 28 = false by kernel_rfl)
  · exact (show Tryd.prog.wantsStandIn 4 = false by kernel_rfl)
  · exact (show Tryd.prog.wantsStandIn 37 = false by kernel_rfl)
set_option maxRecDepth 100000 in
/-- The tied card of the second form. -/
theorem card_ : Rows.WkbPrintsUptoCardSaid :=
  Claim7.holds_tied_plain_at .later [] _ _ _ _ saidUpto (fun _ h => by cases h) (by kernel_rfl) (fun _ h => by cases h) wkbPrintsUpto_row_tie rfl ⟨rfl, rfl⟩ (by kernel_rfl) rfl plain (by kernel_rfl)
end Go.Proofs.YtiiolhnpnlmkjaaDoor.wkbPrints
namespace Go.Proofs.YtiiolhnpnlmkjaaDoor
theorem wkbPrints_holds : Rows.WkbPrintsUptoCardSaid := wkbPrints.card_
end Go.Proofs.YtiiolhnpnlmkjaaDoor
