/- Go functions as Lean functions and their contracts: each call comes to what the Lean function says; or a law's row out of them. No conditions. Written by this session's wip/hprint.py (the kit's print with contracts and repairs of my own). -/
import Derived.Test.YtenomaibgpbonaaDoorRows
import Derived.Test.YtenomaibgpbonaaDoorPOctetDigitsx3
import Derived.Test.YtenomaibgpbonaaDoorPureOctetDigits
import Derived.WalkKit
import Derived.ProofKit
import Derived.OpenShut
import Derived.ShutString
import Derived.ChangeOld
import Derived.Below
import Derived.SizedLaws
import Derived.Lib.SmallJoins
import Derived.LaidLaws
import Derived.LaidHandle
import Derived.JoinedOf
import Derived.JoinedCond
import Derived.Deep.DeepHandedRow
import Derived.SevenTiedAt
import Derived.Test.YtenomaibgpbonaaDoorTie
import Derived.Test.YtenomaibgpbonaaDoorCards
import Derived.Test.YtenomaibgpbonaaDoorErrs
import Derived.Test.YtenomaibgpbonaaDoorBulk
import Derived.Test.YtenomaibgpbonaaDoorWSized
namespace Go.Proofs.YtenomaibgpbonaaDoor.octetDigits
open Go.ChangeShapes Go.WideShapes Go.ChangeAt Go.RowKit Go.Joins Go.Proofs.YtenomaibgpbonaaDoorW.PrintWords
open Go.ChangeMaps (open_string shut_string)
set_option linter.unusedVariables false
theorem own : ownKnob Tryd.prog.godebug = none := by kernel_rfl
theorem laidOut : laidOutB Tryd.prog = true := by kernel_rfl
theorem et : Tryd.prog.globalNamed "errors.errorType" = some 0 := by kernel_rfl
theorem rt : (Tryd.prog.cutTypes.find? (·.1 == "internal/reflectlite.rtype")).map (·.2) = some 98 := by kernel_rfl
theorem oneRow : ((List.range 138).filter fun t => Tryd.prog.rowNamed t [101, 114, 114, 111, 114]) = [38] := by kernel_rfl
theorem size : Tryd.prog.types.size = 138 := by kernel_rfl
/-- What the row's condition gives a walk: the variable's one cell. -/
theorem handle_of_laid {W : World} (h : laidMetH Tryd.prog [("errors.errorType", Rows.laid_errors_errorType)] W) : Handle W := by
  have h' : laidMet Tryd.prog [] W ∧ handlesMet Tryd.prog [("errors.errorType", Rows.laid_errors_errorType)] W := h
  obtain ⟨name, u, ty, e1, e2, e3, e4, e5⟩ := h'.2 _ (List.mem_singleton.2 rfl)
  have en : name = [101, 114, 114, 111, 114] := (Option.some.inj e1).symm
  subst en
  obtain rfl := Option.some.inj (rt.symm.trans e2)
  have hm : ty ∈ (List.range 138).filter fun t => Tryd.prog.rowNamed t [101, 114, 114, 111, 114] := List.mem_filter.2 ⟨List.mem_range.2 (by rw [← size]; exact e3), e4⟩
  rw [oneRow] at hm
  obtain rfl := List.mem_singleton.1 hm
  have hh : typeHandle Tryd.prog 38 = .pointer (some ⟨1, 38, none⟩) := by kernel_rfl
  rw [hh] at e5
  have := World.var?_cell et e5 0
  simpa [Handle] using this
/-- A world that meets the condition. -/
noncomputable def laidWorld (os : Os) : World :=
  let w0 := World.holding Tryd.prog os ⟨#[], #[], []⟩
  { w0 with heap := w0.heap.modify 0 fun
      | .cells _ t frozen => .cells #[.iface 98 (.agg #[.pointer (some ⟨1, 38, none⟩)])] t frozen
      | o => o }
theorem laidWorld_met (os : Os) (args : Array Value) : laidMetH Tryd.prog [("errors.errorType", Rows.laid_errors_errorType)] ((laidWorld os).forCall (fun _ _ => 0) ⟨#[], args, []⟩).memory :=
  laidMetH_of_parts (laidMet_nil _ _) (by kernel_rfl)
theorem ints_short {H : Type} {enc : TypeId × Value → H} {w : World} {sp held} {base : Nat} {e t : TypeId} {k : IntKind} {a : Option Addr} {len cap : Nat} {d : DataW H} {p : List MemPlace} (ht : Tryd.prog.underlying t = some (.slice e)) (he : Tryd.prog.underlying e = some (.int k)) (hc : Tryd.prog.cellsOf e = 1)
    (h : DataW.Trod enc Tryd.prog w base sp held t (.slice a len cap) d p) (hb : Rows.uptoBulk d ≤ 1048576) : len ≤ 1048576 := by
  obtain ⟨fuel, hf⟩ := h
  rcases open_ints ht he hc hf with ⟨hcs, _⟩ | ⟨x, l, c, zs, hcs, _, hl, _, hz, hd, _⟩
  · simp [Value.cells] at hcs
    omega
  · simp [Value.cells] at hcs
    obtain ⟨_, rfl, rfl⟩ := hcs
    have e1 := (Prod.mk.inj hd).1
    rw [e1] at hb
    have h2 := bulks.slice_le (H := H) (lits k (zs.take len)) (lits k (zs.drop len))
    have h3 : (lits (H := H) k (zs.take len)).length = min len zs.length := by simp [lits]
    have h4 : len ≤ zs.length := by split at hz <;> omega
    omega
def IsRow (k : IntKind) (w : World) (a : Option Addr) (len cap : Nat) (zs : List Int) : Prop :=
  (a = none ∧ len = 0 ∧ cap = 0 ∧ zs = []) ∨
  ∃ x, a = some x ∧ len ≤ cap ∧ cap ≤ maxLen ∧ zs.length = cap ∧ (∀ i, i < zs.length → w.cell? (x.add i) = some (.int k (zs.getD i 0))) ∧ ∀ n ∈ zs, (Lit.int k n).wf = true
set_option maxRecDepth 100000 in
theorem contract (H : Type) (enc : TypeId × Value → H) (W : World) (base : Nat) (args : Array Value) (ds gs : List (DataW H)) (before : List MemPlace)
    (hval0 : ∀ (j : Nat) t v, Tryd.f6.params[j]? = some t → args[j]? = some v → Value.okWide Tryd.prog W .any base t v)
    (hW : DataW.Whole enc Tryd.prog Tryd.f6.params.toList Rows.octetDigitsSpec.vars false W args.toList ds gs before) (hk : Rows.uptoSmall H (ds ++ gs) = true) (hL : laidMetH Tryd.prog [("errors.errorType", Rows.laid_errors_errorType)] W) :
    Calls Tryd.prog 6 args W fun e W' => ∃ v, e = .returned v ∧ Rows.octetDigitsSpec.post enc Tryd.prog Tryd.f6 false true false false W args v W' := by
  have hval : ∀ (j : Nat) t v, Tryd.f6.params[j]? = some t → args[j]? = some v → Value.okWide Tryd.prog W .any base t v := hval0
  have hW' := hW
  obtain ⟨p, q, hA0, hV, rfl, hfz, hnd⟩ := hW
  have hA : DataW.TrodAll enc Tryd.prog W 0 (fun _ => true) true Tryd.f6.params.toList args.toList ds p := hA0
  rw [Tryd.params6] at hA hval
  obtain ⟨v0, vs0, d0, ds0, p0, q0, hargs, rfl, rfl, h0, r0⟩ := trodAll_cons hA
  obtain ⟨rfl, rfl, rfl⟩ := trodAll_nil r0
  obtain rfl : args = #[v0] := by cases args; simp_all
  obtain ⟨rfl, rfl⟩ := trodVars_none hV
  have hbulk := bulks.bound hk
  have k0 := h0
  have lt0 : ∀ x ∈ p0, x.block < W.heap.size := by obtain ⟨m, hm⟩ := k0; exact DataW.trod_lt m _ _ _ hm
  obtain ⟨s0, s1, s2, s3, y0, y1, y2, y3, n, rfl, rfl, rfl, e0, e1, e2, e3⟩ := open_agg4 Tryd.underlying56 (by kernel_rfl) (by kernel_rfl) (hval 0 56 v0 rfl rfl) h0
  simp only [List.append_nil, Rows.uptoBulkAll, Rows.uptoBulk] at hbulk
  obtain ⟨t, ht1, ht2, ht3⟩ := DataW.trod_string Tryd.underlying9 e1
  obtain ⟨i, hi1, hi2, hi3⟩ := DataW.trod_int Tryd.underlying3 e2
  obtain ⟨c, hc1, hc2, hc3⟩ := DataW.trod_int Tryd.underlying5 e3
  obtain rfl := List.singleton_inj.1 ht1
  obtain rfl := List.singleton_inj.1 hi1
  obtain rfl := List.singleton_inj.1 hc1
  have w1 : t.size ≤ 1048576 := by
    have e_ : t.data.toList.length = t.size := by rw [Array.length_toList]; rfl
    have e2_ := bulks.string_eq (H := H) t.data.toList
    rw [ht2] at hbulk
    simp only [e2_] at hbulk
    omega
  obtain ⟨a0, len0, cap0, z0, rfl, w0, hl0⟩ : ∃ a0 len0 cap0 z0, s0 = .slice a0 len0 cap0 ∧ IsRow .u8 W a0 len0 cap0 z0 ∧ len0 ≤ 1048576 := by
    have hb0 : Rows.uptoBulk y0.1 ≤ 1048576 := by omega
    rcases open_ints Tryd.underlying22 Tryd.underlying5 (by kernel_rfl) e0 with ⟨hcs, _⟩ | ⟨x, l, c, zs, hcs, _, hl, hm, hz, hd, hcell, hwz⟩
    · exact ⟨none, 0, 0, [], List.singleton_inj.1 hcs, .inl ⟨rfl, rfl, rfl, rfl⟩, by omega⟩
    · refine ⟨some x, l, c, zs, List.singleton_inj.1 hcs, .inr ⟨_, rfl, hl, hm, by simpa using hz, hcell, hwz⟩, ?_⟩
      rw [hd] at hb0
      have h2 := bulks.slice_le (H := H) (lits .u8 (zs.take l)) (lits .u8 (zs.drop l))
      have h3 : (lits (H := H) .u8 (zs.take l)).length = min l zs.length := by simp [lits]
      have h4 : l ≤ zs.length := by simp at hz; omega
      simp only at hb0
      omega
  clear hA0 hval0
  obtain ⟨l0, rfl, hr0, hm0, hw0, hc0⟩ := ReadsInt.ofRowC w0
  obtain ⟨k, h⟩ := Pure.OctetDigits l0 t i c hl0 hw0 w1 hi3 hc3
  refine (POctetDigits.plumblaw16_OctetDigits.calls k _ _ l0 t i c true W (handle_of_laid hL) (Kd.C_of_reads (d := (0 : Int)) (h1 := fun _ => rfl) hr0) hc0 h).mono fun e W' ⟨he, bel⟩ => ?_
  subst he
  exact ⟨_, rfl, _, _, _, [], _, [], hW', trodAll_mk1 (shut_bool Tryd.underlying4 _), (trodAll_cons_mk (Below.trod laidOut (by kernel_rfl) (of_decide_eq_true (by kernel_rfl)) k0 bel lt0) trodAll_mk0), rfl, bel.frame _, fun h => by cases h⟩
theorem reads (os : Os) {H : Type} (enc : TypeId × Value → H) : ∃ places, DataW.whole enc Tryd.prog ((laidWorld os).forCall (fun _ _ => 0) ⟨#[], #[.agg #[.slice none 0 0, .string ByteArray.empty, .int .i64 0, .int .u8 0]], []⟩).memory Tryd.f6.params.toList Rows.octetDigitsSpec.vars false (#[.agg #[.slice none 0 0, .string ByteArray.empty, .int .i64 0, .int .u8 0]] : Array Value).toList 8 = some ([.agg [.nil, .lit (.string []), .lit (.int .i64 0), .lit (.int .u8 0)]], [], places) :=
  ⟨[], by kernel_rfl⟩
set_option maxRecDepth 100000 in
theorem liftedUpto (os : Os) (started : os.Started) (H : Type) (enc : TypeId × Value → H) (F : Stop.Interp) :
    ReturnsInHanded {} Tryd.checked os 6 .any ((Rows.OpenSpec.upto Rows.octetDigitsSpec).preRow enc Tryd.prog Tryd.f6 Rows.octetDigitsUptoRow.domain false Rows.octetDigitsUptoRow.laid) (((Rows.OpenSpec.upto Rows.octetDigitsSpec).at F).post enc Tryd.prog Tryd.f6 false true false false) := by
  obtain ⟨places, hx⟩ := reads os enc
  refine returnsInHanded_of_row (C := Tryd.checked) (s := Rows.OpenSpec.upto Rows.octetDigitsSpec) own started (by kernel_rfl) Tryd.func6
    (witness_row_at (enc := enc) (C := Tryd.checked) false (laidWorld os) #[.agg #[.slice none 0 0, .string ByteArray.empty, .int .i64 0, .int .u8 0]] rfl (by kernel_rfl) (by kernel_rfl) (by kernel_rfl)
      (OpenSpec.preRow_of_cond 8 hx (by kernel_rfl) (fun k hk => by cases hk; kernel_rfl) (by kernel_rfl) (laidWorld_met os _))) ?_
  intro W base args ds gs before hval hW _ hcond _ hL _ _
  exact contract H enc W base args ds gs before hval hW (hcond _ rfl) hL
theorem saidUpto : Rows.OctetDigitsUptoSaid :=
  OpenClaim.holds_of_cond 6 Tryd.f6 rfl rfl rfl rfl rfl rfl rfl ⟨rfl, rfl, rfl, rfl, rfl⟩ rfl rfl rfl rfl rfl (by kernel_rfl) Tryd.func6 (by kernel_rfl)
    (of_decide_eq_true (by kernel_rfl)) (by unfold Func.isWrapper; first | (rw [if_pos (by decide +kernel)]; kernel_rfl) | (rw [if_neg (by decide +kernel)]; exact ⟨rfl, rfl⟩))
    (fun os started H enc _ F => by rw [OpenClaim.pre_eq_preRow]; exact liftedUpto os started H enc F)
theorem plain (f : FuncId) (fn : Func) (hf : Tryd.pinned.checked.prog.funcNamed "plumb/plumblaw16.OctetDigits" = some f) (hfn : Tryd.pinned.checked.prog.funcs[f]? = some fn) :
    true = Tryd.pinned.checked.prog.looks [] ∧ ∀ (j : Nat) t, fn.params[j]? = some t → Tryd.pinned.checked.prog.wantsStandIn t = false := by
  obtain rfl : f = 6 := Option.some.inj ((show Tryd.prog.funcNamed "plumb/plumblaw16.OctetDigits" = some 6 by kernel_rfl).symm.trans hf) |>.symm
  obtain rfl : fn = Tryd.f6 := (Option.some.inj (Tryd.func6.symm.trans hfn)).symm
  refine ⟨by kernel_rfl, fun j t ht => ?_⟩
  rw [Tryd.params6] at ht
  have hm : t ∈ [56] := by
    have := Array.mem_of_getElem? ht
    simpa using this
  simp only [List.mem_cons, List.not_mem_nil, or_false] at hm
  subst hm
  exact (show Tryd.prog.wantsStandIn 56 = false by kernel_rfl)
set_option maxRecDepth 100000 in
/-- The tied card of the second form. -/
theorem card_ : Rows.OctetDigitsUptoCardSaid :=
  Claim7.holds_tied_plain_at .later [] _ _ _ _ saidUpto (fun _ h => by cases h) (by kernel_rfl) (fun _ h => by cases h) octetDigitsUpto_row_tie rfl ⟨rfl, rfl⟩ (by kernel_rfl) rfl plain (by kernel_rfl)
#print axioms card_
end Go.Proofs.YtenomaibgpbonaaDoor.octetDigits
namespace Go.Proofs.YtenomaibgpbonaaDoor
/-- The row, under a short name, for the claim. -/
theorem octetDigits_holds : Rows.OctetDigitsUptoCardSaid := octetDigits.card_
end Go.Proofs.YtenomaibgpbonaaDoor
