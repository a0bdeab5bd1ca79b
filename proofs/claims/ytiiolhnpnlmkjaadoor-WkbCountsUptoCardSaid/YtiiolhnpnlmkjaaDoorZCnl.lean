/- Texts of this claim laid one behind the other (TOpen; TOpenW; TRowCounts): what each proves stands at its own names; the last one is the claim's. No conditions but those told. -/
import Derived.Test.YtiiolhnpnlmkjaaDoorZCnk
import Derived.Test.YtiiolhnpnlmkjaaDoorRows
import Derived.ChangeArms
import Derived.ChangeShapes
import Derived.WalkKit
import Derived.ProofKit
import Derived.OpenShut
import Derived.JoinedCond
import Derived.Carry
import Derived.LaidLaws
import Derived.LaidHandle
import Derived.JoinedOf
import Derived.Deep.DeepHandedRow
import Derived.SevenTiedAt
import Derived.Test.YtiiolhnpnlmkjaaDoorTie
import Derived.Test.YtiiolhnpnlmkjaaDoorCards
namespace Go.Proofs.YtiiolhnpnlmkjaaDoor.Tree
open Go.RowKit Go.Proofs.YtiiolhnpnlmkjaaDoorW.PrintWords Go.Proofs.YtiiolhnpnlmkjaaDoorW.PrintLast Go.Proofs.YtiiolhnpnlmkjaaDoorW.PrintMore
theorem exists_list {α : Type} (P : Nat → α → Prop) : ∀ n : Nat, (∀ i, i < n → ∃ a, P i a) → ∃ xs : List α, xs.length = n ∧ ∀ i a, xs[i]? = some a → P i a := by
  intro n
  induction n with
  | zero => intro _; exact ⟨[], rfl, fun i a h => by simp at h⟩
  | succ n ih =>
    intro h
    obtain ⟨xs, hl, hx⟩ := ih (fun i hi => h i (by omega))
    obtain ⟨a, ha⟩ := h n (by omega)
    refine ⟨xs ++ [a], by simp [hl], fun i b hb => ?_⟩
    by_cases hi : i < xs.length
    · rw [List.getElem?_append_left hi] at hb; exact hx i b hb
    · have hlt := (List.getElem?_eq_some_iff.1 hb).1
      simp at hlt
      obtain rfl : i = n := by omega
      rw [List.getElem?_append_right (by omega)] at hb
      simp [hl] at hb
      subst hb; exact ha
theorem sum_le {α H : Type} (wt : α → Nat) : ∀ (xs : List α) (ys : List (DataW H)), xs.length = ys.length → (∀ (i : Nat) (a : α) (y : DataW H), xs[i]? = some a → ys[i]? = some y → wt a ≤ Rows.uptoBulk y) → (xs.map wt).sum ≤ Rows.uptoBulkAll ys := by
  intro xs
  induction xs with
  | nil => intro ys _ _; simp
  | cons a xs ih =>
    intro ys hl h
    cases ys with
    | nil => simp at hl
    | cons y ys =>
      simp only [List.map_cons, List.sum_cons, Rows.uptoBulkAll]
      have h1 := h 0 a y rfl rfl
      have h2 := ih ys (by simpa using hl) (fun i b z hb hz => h (i + 1) b z (by simpa using hb) (by simpa using hz))
      omega
theorem mapM_get {α β : Type} {f : α → Option β} : ∀ {l : List α} {r : List β}, l.mapM f = some r → ∀ (i : Nat) (x : α), l[i]? = some x → f x = r[i]? := by
  intro l
  induction l with
  | nil => intro r _ i x h; simp at h
  | cons y l ih =>
    intro r h i x hx
    simp only [List.mapM_cons, Option.bind_eq_bind, Option.bind_eq_some_iff, Option.pure_def, Option.some.injEq] at h
    obtain ⟨z, h1, r', h2, rfl⟩ := h
    cases i with
    | zero => simp at hx; subst hx; simpa using h1
    | succ i => simp at hx; simpa using ih h2 i x hx
section
variable {H : Type} {enc : TypeId × Value → H} {W : World} {base : Nat} {sp : Nat → Bool} {held : Bool}
theorem cells_get {a : Addr} {n : Nat} {cs : List Value} (h : W.cells? base a n = some cs) (hl : cs.length ≤ n) : ∀ i u, cs[i]? = some u → W.cell? (a.add i) = some u := by
  intro i u hu
  unfold World.cells? at h
  split at h
  · have hi := (List.getElem?_eq_some_iff.1 hu).1
    have := mapM_get h i i (by rw [List.getElem?_range]; omega)
    rw [this, hu]
  · cases h
theorem one_le (d : DataW H) : 1 ≤ Rows.uptoBulk d := by
  cases d with
  | lit l => cases l <;> simp [Rows.uptoBulk]
  | nil => simp [Rows.uptoBulk]
  | ptr d => simp [Rows.uptoBulk]
  | slice elems spare => simp [Rows.uptoBulk]
  | agg parts => simp [Rows.uptoBulk]
  | iface t d => simp [Rows.uptoBulk]
  | map entries => simp [Rows.uptoBulk]
  | held h => simp [Rows.uptoBulk]
theorem sum_one {α : Type} (l : List α) : (l.map fun _ => 1).sum = l.length := by
  induction l with
  | nil => rfl
  | cons a l ih => simp only [List.map_cons, List.sum_cons, ih, List.length_cons]; omega
end
end Go.Proofs.YtiiolhnpnlmkjaaDoor.Tree
namespace Go.Proofs.YtiiolhnpnlmkjaaDoor.Tree
open Go.RowKit Go.Proofs.YtiiolhnpnlmkjaaDoorW.PrintWords Go.Proofs.YtiiolhnpnlmkjaaDoorW.PrintLast Go.Proofs.YtiiolhnpnlmkjaaDoorW.PrintMore Go.Proofs.YtiiolhnpnlmkjaaDoor.PMk
theorem cellsU8 : Tryd.prog.cellsOf 5 = 1 := by kernel_rfl
section
variable {H : Type} {enc : TypeId × Value → H} {W : World} {base : Nat} {sp : Nat → Bool} {held : Bool}
theorem open_rowP {α : Type} (P : α → Prop) (d : Kd α) (wt : α → Nat) {t e : TypeId} (ht : Tryd.prog.underlying t = some (.slice e)) (hs : Tryd.prog.cellsOf e = d.sz) {n : Nat} {cs : List Value} {x : DataW H × List MemPlace}
    (hE : ∀ m cs y, m < n → DataW.trod enc Tryd.prog W base sp held m e cs = some y → ∃ a, d.K W a cs ∧ wt a ≤ Rows.uptoBulk y.1 ∧ P a)
    (h : DataW.trod enc Tryd.prog W base sp held n t cs = some x) : ∃ A c xs, cs = [.slice A xs.length c] ∧ xs.length ≤ c ∧ d.C W A xs.length xs ∧ (xs.map wt).sum + 1 ≤ Rows.uptoBulk x.1 ∧ ∀ a ∈ xs, P a := by
  rcases DataW.trod_slice ht h with ⟨rfl, rfl⟩ | ⟨a, len, cap, elems, rest, m, rfl, rfl, rfl, _, hlc, hcm, hel, hget, _, _⟩
  · exact ⟨none, 0, [], rfl, Nat.le_refl _, (Kd.R_reads' (Kd.R_nil d 0 W 0 (fun _ => True))).2.2, by simp [Rows.uptoBulk], by simp⟩
  · obtain ⟨xs, hl, hx⟩ := exists_list (fun i p => ∃ cs y, W.cells? base (a.add (i * d.sz)) d.sz = some cs ∧ elems[i]? = some y ∧ d.K W p cs ∧ wt p ≤ Rows.uptoBulk y.1 ∧ P p) len (fun i hi => by
      have h1 := hget i hi
      rw [hs, List.getElem?_eq_getElem (by omega)] at h1
      obtain ⟨c, h2, h3⟩ := Option.bind_eq_some_iff.1 h1
      obtain ⟨p, h4, h5⟩ := hE m c _ (by omega) h3
      exact ⟨p, c, _, h2, List.getElem?_eq_getElem (by omega), h4, h5⟩)
    refine ⟨some a, cap, xs, by rw [hl], by omega, ?_, ?_, ?_⟩
    · refine ⟨rfl, by have : maxLen ≤ 9223372036854775807 := by decide
                      omega, fun _ => ⟨a, rfl, fun j p hj => ?_⟩⟩
      obtain ⟨c, y, h1, _, h3, _⟩ := hx j p hj
      have hcl := d.K_len h3
      refine ⟨c, hcl, h3, fun i u hu => ?_⟩
      have := cells_get h1 (by omega) i u hu
      rw [Addr.add_add] at this
      exact this
    · have := sum_le wt xs (elems.map (·.1)) (by simp [hl, hel]) (fun i p y hp hy => by
        obtain ⟨c, z, _, h2, _, h4, _⟩ := hx i p hp
        rw [List.getElem?_map, h2] at hy
        cases hy; exact h4)
      simp only [Rows.uptoBulk]
      omega
    · intro p hp
      obtain ⟨i, hi, rfl⟩ := List.mem_iff_getElem.1 hp
      obtain ⟨c, z, _, _, _, _, h4⟩ := hx i _ (List.getElem?_eq_getElem hi)
      exact h4
theorem open_u8 {n : Nat} {cs : List Value} {y : DataW H × List MemPlace} (h : DataW.trod enc Tryd.prog W base sp held n 5 cs = some y) : ∃ i : Int, (Kd.int .u8).K W i cs ∧ 1 ≤ Rows.uptoBulk y.1 ∧ 0 ≤ i ∧ i < 256 := by
  obtain ⟨a, ea, _, hw⟩ := DataW.trod_int Tryd.underlying5 h
  have := bounds_u8 hw
  exact ⟨a, ea, one_le _, by omega, by omega⟩
end
end Go.Proofs.YtiiolhnpnlmkjaaDoor.Tree
namespace Go.Proofs.YtiiolhnpnlmkjaaDoor.wkbCounts
open Go.ChangeShapes Go.WideShapes Go.ChangeAt Go.RowKit Go.Proofs.YtiiolhnpnlmkjaaDoor.Tree
theorem own : ownKnob Tryd.prog.godebug = none := by kernel_rfl
theorem laidOut : laidOutB Tryd.prog = true := by kernel_rfl
theorem et : Tryd.prog.globalNamed "errors.errorType" = some 0 := by kernel_rfl
theorem rt : (Tryd.prog.cutTypes.find? (·.1 == "internal/reflectlite.rtype")).map (·.2) = some 182 := by kernel_rfl
theorem oneRow : ((List.range 228).filter fun t => Tryd.prog.rowNamed t [101, 114, 114, 111, 114]) = [32] := by kernel_rfl
theorem size : Tryd.prog.types.size = 228 := by kernel_rfl
/-- What the row's condition gives a walk: the variable's one cell. -/
theorem handle_of_laid {W : World} (h : laidMetH Tryd.prog [("errors.errorType", Rows.laid_errors_errorType)] W) : Handle W := by
  have h' : laidMet Tryd.prog [] W ∧ handlesMet Tryd.prog [("errors.errorType", Rows.laid_errors_errorType)] W := h
  obtain ⟨name, u, ty, e1, e2, e3, e4, e5⟩ := h'.2 _ (List.mem_singleton.2 rfl)
  have en : name = [101, 114, 114, 111, 114] := (Option.some.inj e1).symm
  subst en
  obtain rfl := Option.some.inj (rt.symm.trans e2)
  have hm : ty ∈ (List.range 228).filter fun t => Tryd.prog.rowNamed t [101, 114, 114, 111, 114] := List.mem_filter.2 ⟨List.mem_range.2 (by rw [← size]; exact e3), e4⟩
  rw [oneRow] at hm
  obtain rfl := List.mem_singleton.1 hm
  have hh : typeHandle Tryd.prog 32 = .pointer (some ⟨1, 32, none⟩) := by kernel_rfl
  rw [hh] at e5
  have := World.var?_cell et e5 0
  simpa [Handle] using this
/-- A world that meets the condition. -/
noncomputable def laidWorld (os : Os) : World :=
  let w0 := World.holding Tryd.prog os ⟨#[], #[], []⟩
  { w0 with heap := w0.heap.modify 0 fun
      | .cells _ t frozen => .cells #[.iface 182 (.agg #[.pointer (some ⟨1, 32, none⟩)])] t frozen
      | o => o }
theorem laidWorld_met (os : Os) (args : Array Value) : laidMetH Tryd.prog [("errors.errorType", Rows.laid_errors_errorType)] ((laidWorld os).forCall (fun _ _ => 0) ⟨#[], args, []⟩).memory :=
  laidMetH_of_parts (laidMet_nil _ _) (by kernel_rfl)
set_option maxRecDepth 100000 in
set_option maxHeartbeats 4000000 in
theorem contract (H : Type) (enc : TypeId × Value → H) (W : World) (args : Array Value) (ds gs : List (DataW H)) (before : List MemPlace) (b0 : Nat) (hval : ∀ (j : Nat) t v, Tryd.f7.params[j]? = some t → args[j]? = some v → Value.okWide Tryd.prog W .any b0 t v)
    (hW : DataW.Whole enc Tryd.prog Tryd.f7.params.toList Rows.wkbCountsSpec.vars false W args.toList ds gs before) (hk : Rows.uptoSmall H (ds ++ gs) = true) (hL : laidMetH Tryd.prog [("errors.errorType", Rows.laid_errors_errorType)] W) :
    Calls Tryd.prog 7 args W fun e W' => ∃ v, e = .returned v ∧ Rows.wkbCountsSpec.post enc Tryd.prog Tryd.f7 false true false false W args v W' := by
  have hW' := hW
  obtain ⟨p, q, hA0, hV, rfl, hfz, hnd⟩ := hW
  have hA : DataW.TrodAll enc Tryd.prog W 0 (fun _ => true) true Tryd.f7.params.toList args.toList ds p := hA0
  rw [Tryd.params7] at hA
  obtain ⟨v0, vs0, d0, ds0, p0, q0, hargs, rfl, rfl, h0, r0⟩ := trodAll_cons hA
  obtain ⟨v1, vs1, d1, ds1, p1, q1, rfl, rfl, rfl, h1, r1⟩ := trodAll_cons r0
  obtain ⟨v2, vs2, d2, ds2, p2, q2, rfl, rfl, rfl, h2, r2⟩ := trodAll_cons r1
  obtain ⟨rfl, rfl, rfl⟩ := trodAll_nil r2
  obtain rfl : args = #[v0, v1, v2] := by cases args; simp_all
  obtain ⟨rfl, rfl⟩ := trodVars_none hV
  obtain ⟨a0, rfl, rfl, rfl, wf0⟩ := open_int Tryd.underlying3 (hval 0 3 v0 (by rw [Tryd.params7]; rfl) rfl) h0
  obtain ⟨a1, rfl, rfl, rfl, wf1⟩ := open_int Tryd.underlying73 (hval 1 73 v1 (by rw [Tryd.params7]; rfl) rfl) h1
  have k2 := h2
  obtain ⟨fuel2, hf2⟩ := h2
  obtain ⟨A2, c2, l2, e2, n2, s2, hb2, hP2⟩ := open_rowP (fun x : Int => 0 ≤ x ∧ x < 256) (Go.Proofs.YtiiolhnpnlmkjaaDoorW.PrintWords.Kd.int .u8) (fun _ => 1) (t := 22) (e := 5) Tryd.underlying22 cellsU8 (fun m' cs y _ h => open_u8 h) hf2
  rw [sum_one] at hb2
  obtain ⟨a0_, len_, cap_, rfl⟩ := okWide_slice Tryd.underlying22 (hval 2 22 v2 (by rw [Tryd.params7]; rfl) rfl)
  obtain ⟨rfl, rfl, rfl⟩ : A2 = a0_ ∧ l2.length = len_ ∧ c2 = cap_ := by
    have e9 : [Value.slice a0_ len_ cap_] = [Value.slice A2 l2.length c2] := e2
    cases e9
    exact ⟨rfl, rfl, rfl⟩
  have lt2 : ∀ x ∈ p2, x.block < W.heap.size := by obtain ⟨m, hm⟩ := k2; exact DataW.trod_lt m _ _ _ hm
  have hsum : Rows.uptoBulkAll ([.lit (.int .i64 a0), .lit (.int .u32 a1), d2] ++ []) ≤ 1048576 := of_decide_eq_true hk
  simp only [List.append_nil, Rows.uptoBulkAll] at hsum
  have hbk2 : l2.length ≤ 1048576 := by
    have hb' : l2.length + 1 ≤ Rows.uptoBulk d2 := hb2
    omega
  clear hA0
  have hh : Handle W := handle_of_laid hL
  refine (counts_all a0 a1 A2 c2 l2 W (bounds_u32 wf1) s2 n2 (fun x hx => hP2 x hx) hh).mono fun e W' ⟨he, bel⟩ => ?_
  subst he
  exact ⟨_, rfl, _, _, _, [], _, [], hW', trodAll_mk1 (shut_bool Tryd.underlying4 _), (trodAll_cons_mk (shut_int Tryd.underlying3 wf0) (trodAll_cons_mk (shut_int Tryd.underlying73 wf1) (trodAll_cons_mk (Below.trod laidOut (by kernel_rfl) (of_decide_eq_true (by kernel_rfl)) k2 bel lt2) trodAll_mk0))), rfl, bel.frame _, fun h => by cases h⟩
theorem reads (os : Os) {H : Type} (enc : TypeId × Value → H) : ∃ places, DataW.whole enc Tryd.prog ((laidWorld os).forCall (fun _ _ => 0) ⟨#[], #[.int .i64 0, .int .u32 0, .slice none 0 0], []⟩).memory Tryd.f7.params.toList Rows.wkbCountsSpec.vars false (#[.int .i64 0, .int .u32 0, .slice none 0 0] : Array Value).toList 8 = some ([.lit (.int .i64 0), .lit (.int .u32 0), .nil], [], places) :=
  ⟨[], by kernel_rfl⟩
set_option maxRecDepth 100000 in
theorem liftedUpto (os : Os) (started : os.Started) (H : Type) (enc : TypeId × Value → H) (F : Stop.Interp) :
    ReturnsInHanded {} Tryd.checked os 7 .any ((Rows.OpenSpec.upto Rows.wkbCountsSpec).preRow enc Tryd.prog Tryd.f7 Rows.wkbCountsUptoRow.domain false Rows.wkbCountsUptoRow.laid) (((Rows.OpenSpec.upto Rows.wkbCountsSpec).at F).post enc Tryd.prog Tryd.f7 false true false false) := by
  obtain ⟨places, hx⟩ := reads os enc
  refine returnsInHanded_of_row (C := Tryd.checked) (s := Rows.OpenSpec.upto Rows.wkbCountsSpec) own started (by kernel_rfl) Tryd.func7
    (witness_row_at (enc := enc) (C := Tryd.checked) false (laidWorld os) #[.int .i64 0, .int .u32 0, .slice none 0 0] rfl (by kernel_rfl) (by kernel_rfl) (by kernel_rfl)
      (OpenSpec.preRow_of_cond 8 hx (by kernel_rfl) (fun k hk => by cases hk; kernel_rfl) (by kernel_rfl) (laidWorld_met os _))) ?_
  intro W base args ds gs before hval hW _ hcond _ hL _ _
  exact contract H enc W args ds gs before base hval hW (hcond _ rfl) hL
theorem saidUpto : Rows.WkbCountsUptoSaid :=
  OpenClaim.holds_of_cond 7 Tryd.f7 rfl rfl rfl rfl rfl rfl rfl ⟨rfl, rfl, rfl, rfl, rfl⟩ rfl rfl rfl rfl rfl (by kernel_rfl) Tryd.func7 (by kernel_rfl)
    (of_decide_eq_true (by kernel_rfl)) (by unfold Func.isWrapper; first | (rw [if_pos (by decide +kernel)]; kernel_rfl) | (rw [if_neg (by decide +kernel)]; exact ⟨rfl, rfl⟩))
    (fun os started H enc _ F => by rw [OpenClaim.pre_eq_preRow]; exact liftedUpto os started H enc F)
theorem plain (f : FuncId) (fn : Func) (hf : Tryd.pinned.checked.prog.funcNamed "plumb/plumblaw17.WkbCounts" = some f) (hfn : Tryd.pinned.checked.prog.funcs[f]? = some fn) :
    true = Tryd.pinned.checked.prog.looks [] ∧ ∀ (j : Nat) t, fn.params[j]? = some t → Tryd.pinned.checked.prog.wantsStandIn t = false := by
  obtain rfl : f = 7 := Option.some.inj ((show Tryd.prog.funcNamed "plumb/plumblaw17.WkbCounts" = some 7 by kernel_rfl).symm.trans hf) |>.symm
  obtain rfl : fn = Tryd.f7 := (Option.some.inj (Tryd.func7.symm.trans hfn)).symm
  refine ⟨by kernel_rfl, fun j t ht => ?_⟩
  rw [Tryd.params7] at ht
  have hm : t ∈ [3, 73, 22] := by
    have := Array.mem_of_getElem? ht
    simpa using this
  simp only [List.mem_cons, List.not_mem_nil, or_false] at hm
  rcases hm with rfl | rfl | rfl
  · exact (show Tryd.prog.wantsStandIn 3 = false by kernel_rfl)
  · exact (show Tryd.prog.wantsStandIn 73 = false by kernel_rfl)
  · exact (show Tryd.prog.wantsStandIn 22 = false by kernel_rfl)
set_option maxRecDepth 100000 in
/-- The tied card of the second form. -/
theorem card_ : Rows.WkbCountsUptoCardSaid :=
  Claim7.holds_tied_plain_at .later [] _ _ _ _ saidUpto (fun _ h => by cases h) (by kernel_rfl) (fun _ h => by cases h) wkbCountsUpto_row_tie rfl ⟨rfl, rfl⟩ (by kernel_rfl) rfl plain (by kernel_rfl)
end Go.Proofs.YtiiolhnpnlmkjaaDoor.wkbCounts
namespace Go.Proofs.YtiiolhnpnlmkjaaDoor
theorem wkbCounts_holds : Rows.WkbCountsUptoCardSaid := wkbCounts.card_
end Go.Proofs.YtiiolhnpnlmkjaaDoor
