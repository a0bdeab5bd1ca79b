/- Texts of this claim laid one behind the other (TOpen; TOpenW; TRowCuts): what each proves stands at its own names; the last one is the claim's. No conditions but those told. -/
import Derived.Test.YtiiolhnpnlmkjaaDoorZTk
import Derived.Test.YtiiolhnpnlmkjaaDoorRows
import Derived.ChangeArms
import Derived.ChangeShapes
import Derived.WalkKit
import Derived.ProofKit
import Derived.OpenShut
import Derived.JoinedCond
import Derived.Carry
import Derived.LaidLaws
import Derived.LaidHandle
import Derived.JoinedOf
import Derived.Deep.DeepHandedRow
import Derived.SevenTiedAt
import Derived.Test.YtiiolhnpnlmkjaaDoorTie
import Derived.Test.YtiiolhnpnlmkjaaDoorCards
namespace Go.Proofs.YtiiolhnpnlmkjaaDoor.Tree
open Go.RowKit Go.Proofs.YtiiolhnpnlmkjaaDoorW.PrintWords Go.Proofs.YtiiolhnpnlmkjaaDoorW.PrintLast Go.Proofs.YtiiolhnpnlmkjaaDoorW.PrintMore
set_option linter.unusedVariables false
theorem exists_list {α : Type} (P : Nat → α → Prop) : ∀ n : Nat, (∀ i, i < n → ∃ a, P i a) → ∃ xs : List α, xs.length = n ∧ ∀ i a, xs[i]? = some a → P i a := by
  intro n
  induction n with
  | zero => intro _; exact ⟨[], rfl, fun i a h => by simp at h⟩
  | succ n ih =>
    intro h
    obtain ⟨xs, hl, hx⟩ := ih (fun i hi => h i (by omega))
    obtain ⟨a, ha⟩ := h n (by omega)
    refine ⟨xs ++ [a], by simp [hl], fun i b hb => ?_⟩
    by_cases hi : i < xs.length
    · rw [List.getElem?_append_left hi] at hb; exact hx i b hb
    · have hlt := (List.getElem?_eq_some_iff.1 hb).1
      simp at hlt
      obtain rfl : i = n := by omega
      rw [List.getElem?_append_right (by omega)] at hb
      simp [hl] at hb
      subst hb; exact ha
theorem sum_le {α H : Type} (wt : α → Nat) : ∀ (xs : List α) (ys : List (DataW H)), xs.length = ys.length → (∀ (i : Nat) (a : α) (y : DataW H), xs[i]? = some a → ys[i]? = some y → wt a ≤ Rows.uptoBulk y) → (xs.map wt).sum ≤ Rows.uptoBulkAll ys := by
  intro xs
  induction xs with
  | nil => intro ys _ _; simp
  | cons a xs ih =>
    intro ys hl h
    cases ys with
    | nil => simp at hl
    | cons y ys =>
      simp only [List.map_cons, List.sum_cons, Rows.uptoBulkAll]
      have h1 := h 0 a y rfl rfl
      have h2 := ih ys (by simpa using hl) (fun i b z hb hz => h (i + 1) b z (by simpa using hb) (by simpa using hz))
      omega
theorem mapM_get {α β : Type} {f : α → Option β} : ∀ {l : List α} {r : List β}, l.mapM f = some r → ∀ (i : Nat) (x : α), l[i]? = some x → f x = r[i]? := by
  intro l
  induction l with
  | nil => intro r _ i x h; simp at h
  | cons y l ih =>
    intro r h i x hx
    simp only [List.mapM_cons, Option.bind_eq_bind, Option.bind_eq_some_iff, Option.pure_def, Option.some.injEq] at h
    obtain ⟨z, h1, r', h2, rfl⟩ := h
    cases i with
    | zero => simp at hx; subst hx; simpa using h1
    | succ i => simp at hx; simpa using ih h2 i x hx
section
variable {H : Type} {enc : TypeId × Value → H} {W : World} {base : Nat} {sp : Nat → Bool} {held : Bool}
theorem cells_get {a : Addr} {n : Nat} {cs : List Value} (h : W.cells? base a n = some cs) (hl : cs.length ≤ n) : ∀ i u, cs[i]? = some u → W.cell? (a.add i) = some u := by
  intro i u hu
  unfold World.cells? at h
  split at h
  · have hi := (List.getElem?_eq_some_iff.1 hu).1
    have := mapM_get h i i (by rw [List.getElem?_range]; omega)
    rw [this, hu]
  · cases h
theorem one_le (d : DataW H) : 1 ≤ Rows.uptoBulk d := by
  cases d with
  | lit l => cases l <;> simp [Rows.uptoBulk]
  | nil => simp [Rows.uptoBulk]
  | ptr d => simp [Rows.uptoBulk]
  | slice elems spare => simp [Rows.uptoBulk]
  | agg parts => simp [Rows.uptoBulk]
  | iface t d => simp [Rows.uptoBulk]
  | map entries => simp [Rows.uptoBulk]
  | held h => simp [Rows.uptoBulk]
theorem sum_one {α : Type} (l : List α) : (l.map fun _ => 1).sum = l.length := by
  induction l with
  | nil => rfl
  | cons a l ih => simp only [List.map_cons, List.sum_cons, ih, List.length_cons]; omega
end
end Go.Proofs.YtiiolhnpnlmkjaaDoor.Tree
namespace Go.Proofs.YtiiolhnpnlmkjaaDoor.Tree
open Go.RowKit Go.Proofs.YtiiolhnpnlmkjaaDoorW.PrintWords Go.Proofs.YtiiolhnpnlmkjaaDoorW.PrintLast Go.Proofs.YtiiolhnpnlmkjaaDoorW.PrintMore Go.Proofs.YtiiolhnpnlmkjaaDoor.PMk
set_option linter.unusedVariables false
theorem cellsU64 : Tryd.prog.cellsOf 78 = 1 := by kernel_rfl
theorem cellsU8 : Tryd.prog.cellsOf 5 = 1 := by kernel_rfl
theorem cellsWn : Tryd.prog.cellsOf 149 = 3 := by kernel_rfl
theorem list3w {α : Type} : ∀ {l : List α}, l.length = 3 → ∃ a b c, l = [a, b, c]
  | [a, b, c], _ => ⟨a, b, c, rfl⟩
section
variable {H : Type} {enc : TypeId × Value → H} {W : World} {base : Nat} {sp : Nat → Bool} {held : Bool}
theorem open_rowP {α : Type} (P : α → Prop) (d : Kd α) (wt : α → Nat) {t e : TypeId} (ht : Tryd.prog.underlying t = some (.slice e)) (hs : Tryd.prog.cellsOf e = d.sz) {n : Nat} {cs : List Value} {x : DataW H × List MemPlace}
    (hE : ∀ m cs y, m < n → DataW.trod enc Tryd.prog W base sp held m e cs = some y → ∃ a, d.K W a cs ∧ wt a ≤ Rows.uptoBulk y.1 ∧ P a)
    (h : DataW.trod enc Tryd.prog W base sp held n t cs = some x) : ∃ A c xs, cs = [.slice A xs.length c] ∧ xs.length ≤ c ∧ d.C W A xs.length xs ∧ (xs.map wt).sum + 1 ≤ Rows.uptoBulk x.1 ∧ ∀ a ∈ xs, P a := by
  rcases DataW.trod_slice ht h with ⟨rfl, rfl⟩ | ⟨a, len, cap, elems, rest, m, rfl, rfl, rfl, _, hlc, hcm, hel, hget, _, _⟩
  · exact ⟨none, 0, [], rfl, Nat.le_refl _, (Kd.R_reads' (Kd.R_nil d 0 W 0 (fun _ => True))).2.2, by simp [Rows.uptoBulk], by simp⟩
  · obtain ⟨xs, hl, hx⟩ := exists_list (fun i p => ∃ cs y, W.cells? base (a.add (i * d.sz)) d.sz = some cs ∧ elems[i]? = some y ∧ d.K W p cs ∧ wt p ≤ Rows.uptoBulk y.1 ∧ P p) len (fun i hi => by
      have h1 := hget i hi
      rw [hs, List.getElem?_eq_getElem (by omega)] at h1
      obtain ⟨c, h2, h3⟩ := Option.bind_eq_some_iff.1 h1
      obtain ⟨p, h4, h5⟩ := hE m c _ (by omega) h3
      exact ⟨p, c, _, h2, List.getElem?_eq_getElem (by omega), h4, h5⟩)
    refine ⟨some a, cap, xs, by rw [hl], by omega, ?_, ?_, ?_⟩
    · refine ⟨rfl, by have : maxLen ≤ 9223372036854775807 := by decide
                      omega, fun _ => ⟨a, rfl, fun j p hj => ?_⟩⟩
      obtain ⟨c, y, h1, _, h3, _⟩ := hx j p hj
      have hcl := d.K_len h3
      refine ⟨c, hcl, h3, fun i u hu => ?_⟩
      have := cells_get h1 (by omega) i u hu
      rw [Addr.add_add] at this
      exact this
    · have := sum_le wt xs (elems.map (·.1)) (by simp [hl, hel]) (fun i p y hp hy => by
        obtain ⟨c, z, _, h2, _, h4, _⟩ := hx i p hp
        rw [List.getElem?_map, h2] at hy
        cases hy; exact h4)
      simp only [Rows.uptoBulk]
      omega
    · intro p hp
      obtain ⟨i, hi, rfl⟩ := List.mem_iff_getElem.1 hp
      obtain ⟨c, z, _, _, _, _, h4⟩ := hx i _ (List.getElem?_eq_getElem hi)
      exact h4
theorem open_u64 {n : Nat} {cs : List Value} {y : DataW H × List MemPlace} (h : DataW.trod enc Tryd.prog W base sp held n 78 cs = some y) : ∃ i : Int, (Kd.int .u64).K W i cs ∧ 1 ≤ Rows.uptoBulk y.1 ∧ 0 ≤ i ∧ i < 18446744073709551616 := by
  obtain ⟨a, ea, _, hw⟩ := DataW.trod_int Tryd.underlying78 h
  have := bounds_u64 hw
  exact ⟨a, ea, one_le _, by omega, by omega⟩
theorem open_u8 {n : Nat} {cs : List Value} {y : DataW H × List MemPlace} (h : DataW.trod enc Tryd.prog W base sp held n 5 cs = some y) : ∃ i : Int, (Kd.int .u8).K W i cs ∧ 1 ≤ Rows.uptoBulk y.1 ∧ 0 ≤ i ∧ i < 256 := by
  obtain ⟨a, ea, _, hw⟩ := DataW.trod_int Tryd.underlying5 h
  have := bounds_u8 hw
  exact ⟨a, ea, one_le _, by omega, by omega⟩
def wnW (x : Wn) : Nat := 1 + x.f2.length
set_option maxRecDepth 100000 in
theorem open_wn {n : Nat} {cs : List Value} {y : DataW H × List MemPlace} (h : DataW.trod enc Tryd.prog W base sp held n 149 cs = some y) : ∃ x : Wn, kWn.K W x cs ∧ wnW x ≤ Rows.uptoBulk y.1 ∧ ∀ z ∈ x.f2, 0 ≤ z ∧ z < 18446744073709551616 := by
  obtain ⟨xs, m, rfl, rfl, hl, hx, hf⟩ := DataW.trod_struct Tryd.underlying149 h
  rw [cellsWn] at hl
  obtain ⟨u0, u1, u2, rfl⟩ := list3w hl
  have h0 := hf 0 _ rfl
  have h1 := hf 1 _ rfl
  have h2 := hf 2 _ rfl
  obtain ⟨y0, y1, y2, rfl⟩ := list3w (show xs.length = 3 from hx)
  obtain ⟨k, ek, _⟩ := DataW.trod_int Tryd.underlying3 (show DataW.trod enc Tryd.prog W base sp held m 3 [u0] = some y0 from h0)
  cases ek
  obtain ⟨s, es, _⟩ := DataW.trod_int Tryd.underlying3 (show DataW.trod enc Tryd.prog W base sp held m 3 [u1] = some y1 from h1)
  cases es
  obtain ⟨A2, c2, l, e2, l2, r2, b2, p2⟩ := open_rowP (fun i : Int => 0 ≤ i ∧ i < 18446744073709551616) (Kd.int .u64) (fun _ => 1) (t := 147) (e := 78) Tryd.underlying147 cellsU64 (fun m' cs y _ h => open_u64 h) (show DataW.trod enc Tryd.prog W base sp held m 147 [u2] = some y2 from h2)
  cases e2
  rw [sum_one] at b2
  refine ⟨⟨k, s, l⟩, kWn_mk W ⟨k, s, l⟩ l2 r2, ?_, p2⟩
  unfold wnW
  simp only [List.map_cons, List.map_nil, Rows.uptoBulk, Rows.uptoBulkAll]
  omega
theorem sum_wn (l : List Wn) : l.length ≤ (l.map wnW).sum ∧ ∀ x ∈ l, x.f2.length ≤ (l.map wnW).sum := by
  induction l with
  | nil => simp
  | cons a l ih =>
    simp only [List.map_cons, List.sum_cons, List.length_cons]
    have ha : wnW a = 1 + a.f2.length := rfl
    refine ⟨by omega, fun x hx => ?_⟩
    rcases List.mem_cons.1 hx with rfl | hx
    · omega
    · have := ih.2 x hx
      omega
end
end Go.Proofs.YtiiolhnpnlmkjaaDoor.Tree
namespace Go.Proofs.YtiiolhnpnlmkjaaDoor.wkbCuts
open Go.ChangeShapes Go.WideShapes Go.ChangeAt Go.RowKit Go.Proofs.YtiiolhnpnlmkjaaDoor.Tree
theorem own : ownKnob Tryd.prog.godebug = none := by kernel_rfl
theorem laidOut : laidOutB Tryd.prog = true := by kernel_rfl
theorem et : Tryd.prog.globalNamed "errors.errorType" = some 0 := by kernel_rfl
theorem rt : (Tryd.prog.cutTypes.find? (·.1 == "internal/reflectlite.rtype")).map (·.2) = some 182 := by kernel_rfl
theorem oneRow : ((List.range 228).filter fun t => Tryd.prog.rowNamed t [101, 114, 114, 111, 114]) = [32] := by kernel_rfl
theorem size : Tryd.prog.types.size = 228 := by kernel_rfl
/-- What the row's condition gives a walk: the variable's one cell. -/
theorem handle_of_laid {W : World} (h : laidMetH Tryd.prog [("errors.errorType", Rows.laid_errors_errorType)] W) : Handle W := by
  have h' : laidMet Tryd.prog [] W ∧ handlesMet Tryd.prog [("errors.errorType", Rows.laid_errors_errorType)] W := h
  obtain ⟨name, u, ty, e1, e2, e3, e4, e5⟩ := h'.2 _ (List.mem_singleton.2 rfl)
  have en : name = [101, 114, 114, 111, 114] := (Option.some.inj e1).symm
  subst en
  obtain rfl := Option.some.inj (rt.symm.trans e2)
  have hm : ty ∈ (List.range 228).filter fun t => Tryd.prog.rowNamed t [101, 114, 114, 111, 114] := List.mem_filter.2 ⟨List.mem_range.2 (by rw [← size]; exact e3), e4⟩
  rw [oneRow] at hm
  obtain rfl := List.mem_singleton.1 hm
  have hh : typeHandle Tryd.prog 32 = .pointer (some ⟨1, 32, none⟩) := by kernel_rfl
  rw [hh] at e5
  have := World.var?_cell et e5 0
  simpa [Handle] using this
/-- A world that meets the condition. -/
noncomputable def laidWorld (os : Os) : World :=
  let w0 := World.holding Tryd.prog os ⟨#[], #[], []⟩
  { w0 with heap := w0.heap.modify 0 fun
      | .cells _ t frozen => .cells #[.iface 182 (.agg #[.pointer (some ⟨1, 32, none⟩)])] t frozen
      | o => o }
theorem laidWorld_met (os : Os) (args : Array Value) : laidMetH Tryd.prog [("errors.errorType", Rows.laid_errors_errorType)] ((laidWorld os).forCall (fun _ _ => 0) ⟨#[], args, []⟩).memory :=
  laidMetH_of_parts (laidMet_nil _ _) (by kernel_rfl)
set_option maxRecDepth 100000 in
set_option maxHeartbeats 4000000 in
theorem contract (H : Type) (enc : TypeId × Value → H) (W : World) (args : Array Value) (ds gs : List (DataW H)) (before : List MemPlace) (b0 : Nat) (hval : ∀ (j : Nat) t v, Tryd.f6.params[j]? = some t → args[j]? = some v → Value.okWide Tryd.prog W .any b0 t v)
    (hW : DataW.Whole enc Tryd.prog Tryd.f6.params.toList Rows.wkbCutsSpec.vars false W args.toList ds gs before) (hk : Rows.uptoSmall H (ds ++ gs) = true) (hL : laidMetH Tryd.prog [("errors.errorType", Rows.laid_errors_errorType)] W) :
    Calls Tryd.prog 6 args W fun e W' => ∃ v, e = .returned v ∧ Rows.wkbCutsSpec.post enc Tryd.prog Tryd.f6 false true false false W args v W' := by
  have hW' := hW
  obtain ⟨p, q, hA0, hV, rfl, hfz, hnd⟩ := hW
  have hA : DataW.TrodAll enc Tryd.prog W 0 (fun _ => true) true Tryd.f6.params.toList args.toList ds p := hA0
  rw [Tryd.params6] at hA
  obtain ⟨v0, vs0, d0, ds0, p0, q0, hargs, rfl, rfl, h0, r0⟩ := trodAll_cons hA
  obtain ⟨v1, vs1, d1, ds1, p1, q1, rfl, rfl, rfl, h1, r1⟩ := trodAll_cons r0
  obtain ⟨v2, vs2, d2, ds2, p2, q2, rfl, rfl, rfl, h2, r2⟩ := trodAll_cons r1
  obtain ⟨rfl, rfl, rfl⟩ := trodAll_nil r2
  obtain rfl : args = #[v0, v1, v2] := by cases args; simp_all
  obtain ⟨rfl, rfl⟩ := trodVars_none hV
  have k0 := h0
  obtain ⟨fuel0, hf0⟩ := h0
  obtain ⟨A0, c0, l0, e0, n0, s0, hb0, hP0⟩ := open_rowP (fun x : Go.Proofs.YtiiolhnpnlmkjaaDoor.PMk.Wn => ∀ z ∈ x.f2, 0 ≤ z ∧ z < 18446744073709551616) Go.Proofs.YtiiolhnpnlmkjaaDoor.PMk.kWn wnW (t := 56) (e := 149) Tryd.underlying56 cellsWn (fun m' cs y _ h => open_wn h) hf0
  obtain ⟨a0_, len_, cap_, rfl⟩ := okWide_slice Tryd.underlying56 (hval 0 56 v0 (by rw [Tryd.params6]; rfl) rfl)
  obtain ⟨rfl, rfl, rfl⟩ : A0 = a0_ ∧ l0.length = len_ ∧ c0 = cap_ := by
    have e9 : [Value.slice a0_ len_ cap_] = [Value.slice A0 l0.length c0] := e0
    cases e9
    exact ⟨rfl, rfl, rfl⟩
  have lt0 : ∀ x ∈ p0, x.block < W.heap.size := by obtain ⟨m, hm⟩ := k0; exact DataW.trod_lt m _ _ _ hm
  obtain ⟨a1, rfl, rfl, rfl, wf1⟩ := open_int Tryd.underlying3 (hval 1 3 v1 (by rw [Tryd.params6]; rfl) rfl) h1
  have k2 := h2
  obtain ⟨fuel2, hf2⟩ := h2
  obtain ⟨A2, c2, l2, e2, n2, s2, hb2, hP2⟩ := open_rowP (fun x : Int => 0 ≤ x ∧ x < 256) (Go.Proofs.YtiiolhnpnlmkjaaDoorW.PrintWords.Kd.int .u8) (fun _ => 1) (t := 22) (e := 5) Tryd.underlying22 cellsU8 (fun m' cs y _ h => open_u8 h) hf2
  rw [sum_one] at hb2
  obtain ⟨a0_, len_, cap_, rfl⟩ := okWide_slice Tryd.underlying22 (hval 2 22 v2 (by rw [Tryd.params6]; rfl) rfl)
  obtain ⟨rfl, rfl, rfl⟩ : A2 = a0_ ∧ l2.length = len_ ∧ c2 = cap_ := by
    have e9 : [Value.slice a0_ len_ cap_] = [Value.slice A2 l2.length c2] := e2
    cases e9
    exact ⟨rfl, rfl, rfl⟩
  have lt2 : ∀ x ∈ p2, x.block < W.heap.size := by obtain ⟨m, hm⟩ := k2; exact DataW.trod_lt m _ _ _ hm
  have hsum : Rows.uptoBulkAll ([d0, .lit (.int .i64 a1), d2] ++ []) ≤ 1048576 := of_decide_eq_true hk
  simp only [List.append_nil, Rows.uptoBulkAll] at hsum
  have hbk0 : (l0.map wnW).sum ≤ 1048576 := by
    have hb' : (l0.map wnW).sum + 1 ≤ Rows.uptoBulk d0 := hb0
    omega
  have hbk2 : l2.length ≤ 1048576 := by
    have hb' : l2.length + 1 ≤ Rows.uptoBulk d2 := hb2
    omega
  clear hA0
  have hh : Handle W := handle_of_laid hL
  refine (cuts_calls A0 c0 l0 a1 A2 c2 l2 W s0 (by have := (sum_wn l0).1; omega) (fun x hx => by have := (sum_wn l0).2 x hx; omega) hP0 s2 n2 hh).mono fun e W' ⟨he, bel⟩ => ?_
  subst he
  exact ⟨_, rfl, _, _, _, [], _, [], hW', trodAll_mk1 (shut_bool Tryd.underlying4 _), (trodAll_cons_mk (Below.trod laidOut (by kernel_rfl) (of_decide_eq_true (by kernel_rfl)) k0 bel lt0) (trodAll_cons_mk (shut_int Tryd.underlying3 wf1) (trodAll_cons_mk (Below.trod laidOut (by kernel_rfl) (of_decide_eq_true (by kernel_rfl)) k2 bel lt2) trodAll_mk0))), rfl, bel.frame _, fun h => by cases h⟩
theorem reads (os : Os) {H : Type} (enc : TypeId × Value → H) : ∃ places, DataW.whole enc Tryd.prog ((laidWorld os).forCall (fun _ _ => 0) ⟨#[], #[.slice none 0 0, .int .i64 0, .slice none 0 0], []⟩).memory Tryd.f6.params.toList Rows.wkbCutsSpec.vars false (#[.slice none 0 0, .int .i64 0, .slice none 0 0] : Array Value).toList 8 = some ([.nil, .lit (.int .i64 0), .nil], [], places) :=
  ⟨[], by kernel_rfl⟩
set_option maxRecDepth 100000 in
theorem liftedUpto (os : Os) (started : os.Started) (H : Type) (enc : TypeId × Value → H) (F : Stop.Interp) :
    ReturnsInHanded {} Tryd.checked os 6 .any ((Rows.OpenSpec.upto Rows.wkbCutsSpec).preRow enc Tryd.prog Tryd.f6 Rows.wkbCutsUptoRow.domain false Rows.wkbCutsUptoRow.laid) (((Rows.OpenSpec.upto Rows.wkbCutsSpec).at F).post enc Tryd.prog Tryd.f6 false true false false) := by
  obtain ⟨places, hx⟩ := reads os enc
  refine returnsInHanded_of_row (C := Tryd.checked) (s := Rows.OpenSpec.upto Rows.wkbCutsSpec) own started (by kernel_rfl) Tryd.func6
    (witness_row_at (enc := enc) (C := Tryd.checked) false (laidWorld os) #[.slice none 0 0, .int .i64 0, .slice none 0 0] rfl (by kernel_rfl) (by kernel_rfl) (by kernel_rfl)
      (OpenSpec.preRow_of_cond 8 hx (by kernel_rfl) (fun k hk => by cases hk; kernel_rfl) (by kernel_rfl) (laidWorld_met os _))) ?_
  intro W base args ds gs before hval hW _ hcond _ hL _ _
  exact contract H enc W args ds gs before base hval hW (hcond _ rfl) hL
theorem saidUpto : Rows.WkbCutsUptoSaid :=
  OpenClaim.holds_of_cond 6 Tryd.f6 rfl rfl rfl rfl rfl rfl rfl ⟨rfl, rfl, rfl, rfl, rfl⟩ rfl rfl rfl rfl rfl (by kernel_rfl) Tryd.func6 (by kernel_rfl)
    (of_decide_eq_true (by kernel_rfl)) (by unfold Func.isWrapper; first | (rw [if_pos (by decide +kernel)]; kernel_rfl) | (rw [if_neg (by decide +kernel)]; exact ⟨rfl, rfl⟩))
    (fun os started H enc _ F => by rw [OpenClaim.pre_eq_preRow]; exact liftedUpto os started H enc F)
theorem plain (f : FuncId) (fn : Func) (hf : Tryd.pinned.checked.prog.funcNamed "plumb/plumblaw17.WkbCuts" = some f) (hfn : Tryd.pinned.checked.prog.funcs[f]? = some fn) :
    true = Tryd.pinned.checked.prog.looks [] ∧ ∀ (j : Nat) t, fn.params[j]? = some t → Tryd.pinned.checked.prog.wantsStandIn t = false := by
  obtain rfl : f = 6 := Option.some.inj ((show Tryd.prog.funcNamed "plumb/plumblaw17.WkbCuts" = some 6 by kernel_rfl).symm.trans hf) |>.symm
  obtain rfl : fn = Tryd.f6 := (Option.some.inj (Tryd.func6.symm.trans hfn)).symm
  refine ⟨by kernel_rfl, fun j t ht => ?_⟩
  rw [Tryd.params6] at ht
  have hm : t ∈ [56, 3, 22] := by
    have := Array.mem_of_getElem? ht
    simpa using this
  simp only [List.mem_cons, List.not_mem_nil, or_false] at hm
  rcases hm with rfl | rfl | rfl
  · exact (show Tryd.prog.wantsStandIn 56 = false by kernel_rfl)
  · exact (show Tryd.prog.wantsStandIn 3 = false by kernel_rfl)
  · exact (show Tryd.prog.wantsStandIn 22 = false by kernel_rfl)
set_option maxRecDepth 100000 in
/-- The tied card of the second form. -/
theorem card_ : Rows.WkbCutsUptoCardSaid :=
  Claim7.holds_tied_plain_at .later [] _ _ _ _ saidUpto (fun _ h => by cases h) (by kernel_rfl) (fun _ h => by cases h) wkbCutsUpto_row_tie rfl ⟨rfl, rfl⟩ (by kernel_rfl) rfl plain (by kernel_rfl)
end Go.Proofs.YtiiolhnpnlmkjaaDoor.wkbCuts
namespace Go.Proofs.YtiiolhnpnlmkjaaDoor
theorem wkbCuts_holds : Rows.WkbCutsUptoCardSaid := wkbCuts.card_
end Go.Proofs.YtiiolhnpnlmkjaaDoor
