/- Go functions as Lean functions and their contracts: each call comes to what the Lean function says; or a law's row out of them. No conditions. Written by this session's wip/hprint.py (the kit's print with contracts and repairs of my own). -/
import Derived.Test.YtenomaibgpbonaaDoorRows
import Derived.Test.YtenomaibgpbonaaDoorPOctetBackx3
import Derived.Test.YtenomaibgpbonaaDoorPureOctetBack
import Derived.WalkKit
import Derived.ProofKit
import Derived.OpenShut
import Derived.ShutString
import Derived.ChangeOld
import Derived.Below
import Derived.SizedLaws
import Derived.Lib.SmallJoins
import Derived.Deep.Strs
import Derived.LaidLaws
import Derived.LaidHandle
import Derived.JoinedOf
import Derived.SevenTiedAt
import Derived.Test.YtenomaibgpbonaaDoorTie
import Derived.Test.YtenomaibgpbonaaDoorCards
import Derived.Test.YtenomaibgpbonaaDoorErrs
import Derived.Test.YtenomaibgpbonaaDoorWSized
namespace Go.Proofs.YtenomaibgpbonaaDoor.octetBack
open Go.ChangeShapes Go.WideShapes Go.ChangeAt Go.RowKit Go.Joins
open Go.ChangeMaps (open_string shut_string)
set_option linter.unusedVariables false
theorem own : ownKnob Tryd.prog.godebug = none := by kernel_rfl
theorem laidOut : laidOutB Tryd.prog = true := by kernel_rfl
theorem et : Tryd.prog.globalNamed "errors.errorType" = some 0 := by kernel_rfl
theorem rt : (Tryd.prog.cutTypes.find? (·.1 == "internal/reflectlite.rtype")).map (·.2) = some 98 := by kernel_rfl
theorem oneRow : ((List.range 138).filter fun t => Tryd.prog.rowNamed t [101, 114, 114, 111, 114]) = [38] := by kernel_rfl
theorem size : Tryd.prog.types.size = 138 := by kernel_rfl
/-- What the row's condition gives a walk: the variable's one cell. -/
theorem handle_of_laid {W : World} (h : laidMetH Tryd.prog [("errors.errorType", Rows.laid_errors_errorType)] W) : Handle W := by
  have h' : laidMet Tryd.prog [] W ∧ handlesMet Tryd.prog [("errors.errorType", Rows.laid_errors_errorType)] W := h
  obtain ⟨name, u, ty, e1, e2, e3, e4, e5⟩ := h'.2 _ (List.mem_singleton.2 rfl)
  have en : name = [101, 114, 114, 111, 114] := (Option.some.inj e1).symm
  subst en
  obtain rfl := Option.some.inj (rt.symm.trans e2)
  have hm : ty ∈ (List.range 138).filter fun t => Tryd.prog.rowNamed t [101, 114, 114, 111, 114] := List.mem_filter.2 ⟨List.mem_range.2 (by rw [← size]; exact e3), e4⟩
  rw [oneRow] at hm
  obtain rfl := List.mem_singleton.1 hm
  have hh : typeHandle Tryd.prog 38 = .pointer (some ⟨1, 38, none⟩) := by kernel_rfl
  rw [hh] at e5
  have := World.var?_cell et e5 0
  simpa [Handle] using this
/-- A world that meets the condition. -/
noncomputable def laidWorld (os : Os) : World :=
  let w0 := World.holding Tryd.prog os ⟨#[], #[], []⟩
  { w0 with heap := w0.heap.modify 0 fun
      | .cells _ t frozen => .cells #[.iface 98 (.agg #[.pointer (some ⟨1, 38, none⟩)])] t frozen
      | o => o }
theorem laidWorld_met (os : Os) (args : Array Value) : laidMetH Tryd.prog [("errors.errorType", Rows.laid_errors_errorType)] ((laidWorld os).forCall (fun _ _ => 0) ⟨#[], args, []⟩).memory :=
  laidMetH_of_parts (laidMet_nil _ _) (by kernel_rfl)
set_option maxRecDepth 100000 in
open Go.Proofs.YtenomaibgpbonaaDoor.POctetBack Go.Proofs.YtenomaibgpbonaaDoorW.PrintWords in
/-- A list of items, opened. -/
theorem items_open {H : Type} {enc : TypeId × Value → H} {W : World} {base : Nat} {sp : Nat → Bool} {held : Bool} {d : DataW H} {p : List MemPlace} {a : Option Addr} {len cap : Nat} (h : DataW.Trod enc Tryd.prog W base sp held 59 (.slice a len cap) d p) :
    ∃ l : List S43, l.length = len ∧ len ≤ cap ∧ Kd.C k43 W a len l ∧ (∀ x ∈ l, (Lit.int .u64 x.f1).wf = true) ∧ ((d = .nil ∧ len = 0) ∨ ∃ elems spare, d = .slice elems spare ∧ elems.length = len) := by
  obtain ⟨fuel, hf⟩ := h
  rcases DataW.trod_slice Tryd.underlying59 hf with ⟨hcs, hx⟩ | ⟨x, l, c, elems, rest, n, _, hcs, hx, hb, hl, hm, hlen, hel, _, _⟩
  · simp [Value.cells] at hcs
    obtain ⟨rfl, rfl, rfl⟩ := hcs
    exact ⟨[], rfl, Nat.le_refl _, Kd.C_nil _ _, by simp, .inl ⟨(Prod.mk.inj hx).1, rfl⟩⟩
  · simp [Value.cells] at hcs
    obtain ⟨rfl, rfl, rfl⟩ := hcs
    have c43 : Tryd.prog.cellsOf 43 = 3 := by kernel_rfl
    have c3 : Tryd.prog.cellsOf 3 = 1 := by kernel_rfl
    have c41 : Tryd.prog.cellsOf 41 = 1 := by kernel_rfl
    have c4 : Tryd.prog.cellsOf 4 = 1 := by kernel_rfl
    have ex : ∀ i, i < len → ∃ y : S43, W.cell? (x.add (i * 3)) = some (.int .i64 y.f0) ∧ W.cell? (x.add (i * 3 + 1)) = some (.int .u64 y.f1) ∧ W.cell? (x.add (i * 3 + 2)) = some (.bool y.f2) ∧ (Lit.int .u64 y.f1).wf = true := by
      intro i hi
      have h1 := hel i hi
      rw [List.getElem?_eq_getElem (by omega), c43] at h1
      obtain ⟨cs, hcs, ht⟩ := Option.bind_eq_some_iff.1 h1
      obtain ⟨_, hcl, hcell⟩ := World.cells?_some hcs
      obtain ⟨y0, y1, y2, m, _, _, e0, e1, e2⟩ := Go.Deep.trod_struct3 Tryd.underlying43 ht
      match cs, hcl with
      | [q0, q1, q2], _ =>
        simp only [c3, c41, c4, List.drop_zero, List.drop_succ_cons, List.take_succ_cons, List.take_zero] at e0 e1 e2
        obtain ⟨i0, hi1, _, _⟩ := DataW.trod_int Tryd.underlying3 e0
        obtain ⟨i1, hc1, _, hc3⟩ := DataW.trod_int Tryd.underlying41 e1
        obtain ⟨i2, hb1, _⟩ := DataW.trod_bool Tryd.underlying4 e2
        obtain rfl := List.singleton_inj.1 hi1
        obtain rfl := List.singleton_inj.1 hc1
        obtain rfl := List.singleton_inj.1 hb1
        have g0 := hcell 0 (by omega)
        have g1 := hcell 1 (by omega)
        have g2 := hcell 2 (by omega)
        rw [Go.Addr.add_add] at g0 g1 g2
        exact ⟨⟨i0, i1, i2⟩, by simpa using g0, by simpa using g1, by simpa using g2, hc3⟩
    refine ⟨(List.range len).map (fun i => if h : i < len then Classical.choose (ex i h) else z43), by simp, hl, ⟨by simp, Nat.le_trans hl (Nat.le_trans hm (by decide)), fun _ => ⟨x, rfl, fun j q hq => ?_⟩⟩, ?_, .inr ⟨_, _, (Prod.mk.inj hx).1, by simpa using hlen⟩⟩
    · rw [List.getElem?_map] at hq
      obtain ⟨i, hi, rfl⟩ := Option.map_eq_some_iff.1 hq
      obtain ⟨hil, hij⟩ := List.getElem?_eq_some_iff.1 hi
      simp only [List.length_range] at hil
      simp only [List.getElem_range] at hij
      subst hij
      rw [dif_pos hil]
      have hs := Classical.choose_spec (ex j hil)
      refine ⟨_, rfl, k43_mk W _, fun i u hu => ?_⟩
      show W.cell? (x.add (j * 3 + i)) = some u
      match i, hu with
      | 0, hu => simp at hu; rw [← hu]; exact hs.1
      | 1, hu => simp at hu; rw [← hu]; exact hs.2.1
      | 2, hu => simp at hu; rw [← hu]; exact hs.2.2.1
    · intro y hy
      obtain ⟨i, hi, rfl⟩ := List.mem_map.1 hy
      have hil := List.mem_range.1 hi
      rw [dif_pos hil]
      exact (Classical.choose_spec (ex i hil)).2.2.2
set_option maxRecDepth 100000 in
theorem lifted (os : Os) (started : os.Started) (H : Type) (enc : TypeId × Value → H) :
    ReturnsInHanded {} Tryd.checked os 7 .any (fun w args => (Rows.octetBackSpec.pre enc Tryd.prog Tryd.f7 [] false w args ∧ laidMetH Tryd.prog [("errors.errorType", Rows.laid_errors_errorType)] w) ∧ sizedMet enc Tryd.prog Tryd.f7 (OpenSpec.ofChange Rows.octetBackSpec) false w args) (Rows.octetBackSpec.post enc Tryd.prog Tryd.f7 false true false false) := by
  refine returnsInHanded_of_change_and (C := Tryd.checked) (X := fun w _ => laidMetH Tryd.prog [("errors.errorType", Rows.laid_errors_errorType)] w) (fun _ _ _ hh h => h.of_heap hh) own started (by kernel_rfl) Tryd.func7
    (ChangeSpec.witness_at (enc := enc) (C := Tryd.checked) (os := os) (X := fun w _ => laidMetH Tryd.prog [("errors.errorType", Rows.laid_errors_errorType)] w) false (laidWorld os) #[.slice none 0 0] 8 rfl (by kernel_rfl) (by kernel_rfl) (by kernel_rfl) (by kernel_rfl) (by kernel_rfl) (laidWorld_met os _)) ?_
  intro W base args ds gs before hval0 hW hcnd hsz0 hL _
  have hsz : (DataW.weightsEach Tryd.prog (Tryd.f7.params.toList ++ Rows.octetBackSpec.plain.varTypes Tryd.prog) (ds ++ gs)).all (· ≤ reachBytes) = true := hsz0
  have hval : ∀ (j : Nat) t v, Tryd.f7.params[j]? = some t → args[j]? = some v → Value.okWide Tryd.prog W .any base t v := hval0
  have hW' := hW
  obtain ⟨p, q, hA0, hV, rfl, hfz, hnd⟩ := hW
  have hA : DataW.TrodAll enc Tryd.prog W 0 (fun _ => true) true Tryd.f7.params.toList args.toList ds p := hA0
  rw [Tryd.params7] at hA hval hsz
  obtain ⟨v0, vs0, d0, ds0, p0, q0, hargs, rfl, rfl, h0, r0⟩ := trodAll_cons hA
  obtain ⟨rfl, rfl, rfl⟩ := trodAll_nil r0
  obtain rfl : args = #[v0] := by cases args; simp_all
  obtain ⟨rfl, rfl⟩ := trodVars_none hV
  obtain ⟨a0, len0, cap0, rfl⟩ := okWide_slice Tryd.underlying59 (hval 0 59 v0 rfl rfl)
  have k0 := h0
  have lt0 : ∀ x ∈ p0, x.block < W.heap.size := by obtain ⟨m, hm⟩ := k0; exact DataW.trod_lt m _ _ _ hm
  obtain ⟨l0, rfl, hc0, hr0, hw0, hd0⟩ := items_open h0
  have y0 : l0.length ≤ 5864062014634 := by
    rcases hd0 with ⟨_, h⟩ | ⟨elems, spare, rfl, h⟩
    · omega
    · have z := sized_slice hsz (j := 0) (t := 59) rfl rfl Tryd.underlying59
      rw [show Tryd.prog.bytesOf 43 = 24 by kernel_rfl] at z
      have e : reachBytes = 140737488351232 := by decide
      rw [e] at z
      omega
  clear hA0 hval0 hsz0 hsz
  have hv0 : ∀ x ∈ l0, 0 ≤ x.f1 ∧ x.f1 < 18446744073709551616 := by
    intro x hx
    have h_ : 0 ≤ x.f1 ∧ x.f1 ≤ 18446744073709551615 := by simpa [Lit.wf, IntKind.min, IntKind.max, IntKind.signed, IntKind.bits] using hw0 x hx
    omega
  obtain ⟨k, h⟩ := Pure.OctetBack l0 y0 hv0
  refine (POctetBack.plumblaw16_OctetBack.calls k _ _ l0 true W (handle_of_laid hL) hr0 hc0 h).mono fun e W' ⟨he, bel⟩ => ?_
  subst he
  exact ⟨_, rfl, _, _, _, [], _, [], hW', trodAll_mk1 (shut_bool Tryd.underlying4 _), (trodAll_cons_mk (Below.trod laidOut (by kernel_rfl) (of_decide_eq_true (by kernel_rfl)) k0 bel lt0) trodAll_mk0), rfl, bel.frame _, fun h => by cases h⟩
theorem over : Rows.octetBackRow.holds Tryd.pinned (OpenSpec.ofChange Rows.octetBackSpec) :=
  OpenClaim.holds_of_wide 7 Tryd.f7 rfl rfl rfl rfl rfl rfl rfl ⟨rfl, rfl, rfl, rfl, rfl⟩ rfl rfl rfl rfl rfl (by kernel_rfl) Tryd.func7 (by kernel_rfl)
    (of_decide_eq_true (by kernel_rfl)) (by unfold Func.isWrapper; first | (rw [if_pos (by decide +kernel)]; kernel_rfl) | (rw [if_neg (by decide +kernel)]; exact ⟨rfl, rfl⟩))
    (fun os started H enc _ => lifted os started H enc)
theorem proved : Rows.OctetBackSaid := over
set_option maxRecDepth 100000 in
/-- The tied card. -/
theorem card_ : Rows.OctetBackCardSaid :=
  Claim7.holds_tied_plain_at .later [] [.handle] true (true, "84374f7017462fd1ee244aac989d5168fed8deb8a421f220ec2e845d998c45cb") true
    proved (fun _ h => by cases h) (by kernel_rfl) (fun _ h => by cases h) octetBack_row_tie rfl ⟨rfl, rfl⟩ (by kernel_rfl) rfl
    (fun f fn hf hfn => by
      obtain rfl : f = 7 := Option.some.inj ((show Tryd.prog.funcNamed "plumb/plumblaw16.OctetBack" = some 7 by kernel_rfl).symm.trans hf) |>.symm
      obtain rfl : fn = Tryd.f7 := (Option.some.inj (Tryd.func7.symm.trans hfn)).symm
      exact ⟨by kernel_rfl, fun j t ht => by
        rw [Tryd.params7] at ht
        have hm : t ∈ [59] := by
          have := Array.mem_of_getElem? ht
          simpa using this
        simp only [List.mem_cons, List.not_mem_nil, or_false] at hm
        subst hm
        exact (show Tryd.prog.wantsStandIn 59 = false by kernel_rfl)⟩)
    (by kernel_rfl)
#print axioms card_
end Go.Proofs.YtenomaibgpbonaaDoor.octetBack
namespace Go.Proofs.YtenomaibgpbonaaDoor
/-- The row, under a short name, for the claim. -/
theorem octetBack_holds : Rows.OctetBackCardSaid := octetBack.card_
end Go.Proofs.YtenomaibgpbonaaDoor
