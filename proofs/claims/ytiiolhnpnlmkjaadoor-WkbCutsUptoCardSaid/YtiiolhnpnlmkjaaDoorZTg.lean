/- Texts of this claim laid one behind the other (TRef; TItems; TSmall; TRShape; TRCheck; TErrs; TPrSem; TPP): what each proves stands at its own names; the last one is the claim's. No conditions but those told. -/
import Derived.Test.YtiiolhnpnlmkjaaDoorZTf
import Derived.StillTailTactics
import Derived.RangeFuncRecord
import Derived.Laws.BitsAllLaws
import Derived.Test.YtiiolhnpnlmkjaaDoorProg
import Derived.WalkKit
import Derived.LaidEql
import Derived.Stop.Asserts
import Derived.RowKitTokens
import Derived.BigQuiet
namespace Go.Proofs.YtiiolhnpnlmkjaaDoor.Tree
open Go.RowKit Go.Proofs.YtiiolhnpnlmkjaaDoorW.PrintWords Go.Proofs.YtiiolhnpnlmkjaaDoorW.PrintLast Go.Proofs.YtiiolhnpnlmkjaaDoorW.PrintMore
set_option linter.unusedVariables false
set_option linter.unusedSimpArgs false
end Go.Proofs.YtiiolhnpnlmkjaaDoor.Tree
namespace Go.Proofs.YtiiolhnpnlmkjaaDoor.Tree
open Go.RowKit Go.Proofs.YtiiolhnpnlmkjaaDoorW.PrintWords Go.Proofs.YtiiolhnpnlmkjaaDoorW.PrintLast Go.Proofs.YtiiolhnpnlmkjaaDoorW.PrintMore
set_option linter.unusedVariables false
set_option linter.unusedSimpArgs false
structure Stop (p : Prop) : Prop where mk :: (out : p)
/-- A row has grown, perhaps in a new block; no other block that lay there was written. -/
structure OnlyRow (W W' : World) (v v' : Value) : Prop where
  size : W.heap.size ≤ W'.heap.size
  same : ∀ k, k < W.heap.size → some k ≠ v.ownBlock → W'.heap[k]? = W.heap[k]?
  new : ∀ k, v'.ownBlock = some k → v.ownBlock = some k ∨ W.heap.size ≤ k
theorem OnlyRow.trans {W W' W2 : World} {v v' v2 : Value} (h : OnlyRow W W' v v') (k : OnlyRow W' W2 v' v2) : OnlyRow W W2 v v2 :=
  ⟨Nat.le_trans h.size k.size, fun i hi hne => (k.same i (Nat.lt_of_lt_of_le hi h.size) (fun e => by
      rcases h.new i e.symm with h1 | h1
      · exact hne h1.symm
      · omega)).trans (h.same i hi hne), fun i hi => by
      rcases k.new i hi with h1 | h1
      · exact h.new i h1
      · exact .inr (Nat.le_trans h.size h1)⟩
theorem OnlyRow.below {W W' : World} (h : Below W.heap.size W W') (v : Value) : OnlyRow W W' v v := ⟨h.size, fun k hk _ => h.block k hk, fun k hk => .inl hk⟩
theorem OnlyRow.grown {W W' : World} {v v' : Value} (hg : W.grownBy W' v.ownBlock) (hat : v'.ownBlock = v.ownBlock ∨ ∃ b, v'.ownBlock = some b ∧ W.heap.size ≤ b) : OnlyRow W W' v v' :=
  ⟨hg.size, fun k hk hne => hg.block k hk hne, fun k hk => by
    rcases hat with h | ⟨b, h, hb⟩
    · exact .inl (h ▸ hk)
    · rw [h] at hk; cases hk; exact .inr hb⟩
theorem OnlyRow.keep {W W' : World} {v v' : Value} (h : OnlyRow W W' v v') {k : Nat} {o : Obj} (hk : W.heap[k]? = some o) (hne : some k ≠ v.ownBlock) : W'.heap[k]? = some o := (h.same k (blk_lt hk) hne).trans hk
/-- A list of items that a call makes of what came in by w0. -/
def Items (w0 W : World) (v : Value) (l : List It) : Prop := Kd.R (Kd.fixed kIt w0) 139 W w0.heap.size (fun _ => True) v l
end Go.Proofs.YtiiolhnpnlmkjaaDoor.Tree
namespace Go.Proofs.YtiiolhnpnlmkjaaDoor.Tree
open Go.RowKit Go.Proofs.YtiiolhnpnlmkjaaDoorW.PrintWords Go.Proofs.YtiiolhnpnlmkjaaDoorW.PrintLast Go.Proofs.YtiiolhnpnlmkjaaDoorW.PrintMore
set_option linter.unusedVariables false
set_option linter.unusedSimpArgs false
/-- An item of such a list, as it lies there. -/
def ItemAt (w0 W : World) (ad : Addr) (x : It) : Prop := ∃ A1 c1 A2 c2 A3 c3, (W.cell? ad = some (.int .i64 x.f0.f0) ∧ W.cell? ⟨ad.block, ad.off + 1, none⟩ = some (.slice A1 x.f0.f1.length c1) ∧ W.cell? ⟨ad.block, ad.off + 2, none⟩ = some (.slice A2 x.f0.f2.length c2) ∧ W.cell? ⟨ad.block, ad.off + 3, none⟩ = some (.slice A3 x.f0.f3.length c3) ∧
  W.cell? ⟨ad.block, ad.off + 4, none⟩ = some (.int .i64 x.f1) ∧ W.cell? ⟨ad.block, ad.off + 5, none⟩ = some (.int .i64 x.f2)) ∧ IsG w0 (.agg #[.int .i64 x.f0.f0, .slice A1 x.f0.f1.length c1, .slice A2 x.f0.f2.length c2, .slice A3 x.f0.f3.length c3]) x.f0
theorem Items.at_ {w0 W : World} {A : Option Addr} {n c : Nat} {l : List It} (h : Items w0 W (.slice A n c) l) (k : Nat) (hk : k < l.length) : n = l.length ∧ ∃ ad, A = some ad ∧ ItemAt w0 W (ad.add (k * 6)) l[k] := by
  obtain ⟨hn, _, hC⟩ := Kd.R_reads' h
  refine ⟨hn, ?_⟩
  obtain ⟨ad, cs, e, _, hK, hc0⟩ := Kd.C_get hC zIt (k : Int) (by omega) (by omega)
  rw [Int.toNat_natCast] at hK hc0
  have hx : l.getD k zIt = l[k] := by simp [List.getD_eq_getElem?_getD, hk]
  rw [hx] at hK
  have hc : ∀ j u, cs[j]? = some u → W.cell? (ad.add (k * 6 + j)) = some u := hc0
  have hK' : kIt.K w0 l[k] cs := hK
  obtain ⟨A1, c1, A2, c2, A3, c3, rfl, r⟩ := kIt_open hK'
  exact ⟨ad, e, A1, c1, A2, c2, A3, c3, ⟨hc 0 _ rfl, by rw [← add_field _ _ 1 (by omega)]; exact hc 1 _ rfl, by rw [← add_field _ _ 2 (by omega)]; exact hc 2 _ rfl, by rw [← add_field _ _ 3 (by omega)]; exact hc 3 _ rfl, by rw [← add_field _ _ 4 (by omega)]; exact hc 4 _ rfl, by rw [← add_field _ _ 5 (by omega)]; exact hc 5 _ rfl⟩,
    A1, c1, A2, c2, A3, c3, rfl, r⟩
theorem ItemAt.below {w0 W W1 : World} {ad : Addr} {x : It} (h : ItemAt w0 W ad x) (hb : Below W.heap.size W W1) : ItemAt w0 W1 ad x := by
  obtain ⟨A1, c1, A2, c2, A3, c3, ⟨e0, e1, e2, e3, e4, e5⟩, r⟩ := h
  exact ⟨A1, c1, A2, c2, A3, c3, ⟨cell_below hb e0, cell_below hb e1, cell_below hb e2, cell_below hb e3, cell_below hb e4, cell_below hb e5⟩, r⟩
/-- The items that the reference looks at. -/
def seen (g : Ge) : List It := (nodes g 1 0).take 65538
end Go.Proofs.YtiiolhnpnlmkjaaDoor.Tree
namespace Go.Proofs.YtiiolhnpnlmkjaaDoor.Tree
open Go.RowKit Go.Proofs.YtiiolhnpnlmkjaaDoorW.PrintWords Go.Proofs.YtiiolhnpnlmkjaaDoorW.PrintLast Go.Proofs.YtiiolhnpnlmkjaaDoorW.PrintMore
set_option linter.unusedVariables false
set_option linter.unusedSimpArgs false
theorem and2047_le (y : Int) : 0 ≤ Go.bits .and .u64 y 2047 ∧ Go.bits .and .u64 y 2047 ≤ 2047 := by
  have e : Go.bits .and .u64 y 2047 = IntKind.u64.wrap ((BitVec.ofInt 64 y &&& BitVec.ofInt 64 2047).toNat : Int) := rfl
  rw [e, BitVec.toNat_and, IntKind.wrap_u64]
  have h : (BitVec.ofInt 64 y).toNat &&& (BitVec.ofInt 64 2047).toNat ≤ 2047 := by
    have h2 : (BitVec.ofInt 64 2047).toNat = 2047 := by decide
    rw [h2]
    exact Nat.and_le_right
  omega
theorem expo_le (x : Int) : 0 ≤ expo x ∧ expo x ≤ 2047 := by
  have h := and2047_le (x / 4503599627370496)
  unfold expo
  unfold wrap64
  omega
theorem finC_iff (x : Int) : finC classOf x = decide (expo x ≠ 2047) := by
  have h := expo_le x
  unfold finC classOf
  rw [decide_eq_decide]
  constructor
  · intro h1 h2
    rw [h2] at h1
    simp at h1
    split at h1 <;> omega
  · intro h1
    split
    · split <;> omega
    · rw [if_pos (by omega)]; omega
/-! ### shaped -/
def kindB (k : Int) : Bool := decide (1 ≤ k) && decide (k ≤ 7)
def lacksB (g : Ge) : Bool := (decide (0 < g.f1.length) && decide (2 < g.f0)) || ((decide (0 < g.f2.length) && decide (g.f0 ≠ 3)) || (decide (0 < g.f3.length) && decide (g.f0 < 4)))
def shapedB (x : It) : Bool := kindB x.f0.f0 && (fitsB x.f0.f0 x.f2 && (!lacksB x.f0 && ((x.f0.f2.all fun r => !r.isEmpty) && (decide (x.f0.f0 ≠ 1) || decide (x.f0.f1.length ≤ 1)))))
theorem shaped_eq (x : It) : shapedB x = (listsB x.f0 && fitsB x.f0.f0 x.f2) := by
  obtain ⟨⟨k, l, r, p⟩, lv, o⟩ := x
  unfold shapedB listsB kindB lacksB
  dsimp only
  have hR : r.length = 0 → (r.all fun r => !r.isEmpty) = true := by
    intro h
    rw [List.length_eq_zero_iff.1 h]
    rfl
  generalize (r.all fun r => !r.isEmpty) = R at hR ⊢
  generalize fitsB k o = F
  generalize l.length = a at *
  generalize r.length = b at *
  generalize p.length = c at *
  cases F with
  | false => simp
  | true =>
    rw [Bool.eq_iff_iff]
    cases R with
    | false =>
      have hb : b ≠ 0 := fun e => by cases hR e
      by_cases h1 : k = 1
      · simp [h1, hb]
      · by_cases h2 : k = 2
        · simp [h2, hb]
        · by_cases h3 : k = 3
          · simp [h3]
          · by_cases h4 : k = 4 ∨ k = 5 ∨ k = 6 ∨ k = 7
            · rw [if_neg h1, if_neg h2, if_neg h3, if_pos h4]; simp [hb]
            · rw [if_neg h1, if_neg h2, if_neg h3, if_neg h4]; simp
    | true =>
      by_cases h1 : k = 1
      · subst h1; simp <;> omega
      · by_cases h2 : k = 2
        · subst h2; simp <;> omega
        · by_cases h3 : k = 3
          · subst h3; simp <;> omega
          · by_cases h4 : k = 4 ∨ k = 5 ∨ k = 6 ∨ k = 7
            · rw [if_neg h1, if_neg h2, if_neg h3, if_pos h4]; simp <;> omega
            · rw [if_neg h1, if_neg h2, if_neg h3, if_neg h4]; simp <;> omega
end Go.Proofs.YtiiolhnpnlmkjaaDoor.Tree
namespace Go.Proofs.YtiiolhnpnlmkjaaDoor.Tree
open Go.RowKit Go.Proofs.YtiiolhnpnlmkjaaDoorW.PrintWords Go.Proofs.YtiiolhnpnlmkjaaDoorW.PrintLast Go.Proofs.YtiiolhnpnlmkjaaDoorW.PrintMore
set_option linter.unusedVariables false
set_option linter.unusedSimpArgs false
def codeOf : Option (Int × Int) → Int
  | none => 0
  | some x => x.2
def placeOf : Option (Int × Int) → Int
  | none => -1
  | some x => x.1
theorem wrong_many (x : It) (n : Int) (h : 65536 < n) : wrongC x n ≠ 0 := by
  unfold wrongC
  split
  · decide
  · simp [h]
    split <;> decide
theorem scan_take : ∀ (m : Nat) (l : List It) (k n : Nat), 1 ≤ m → 65536 < n + m → scanC k n (l.take m) = scanC k n l := by
  intro m
  induction m with
  | zero => intro l k n h; omega
  | succ m ih =>
    intro l k n _ hn
    cases l with
    | nil => rfl
    | cons x l =>
      rw [List.take_succ_cons, scanC_cons, scanC_cons]
      split
      · rename_i h0
        by_cases hm : m = 0
        · exact absurd h0 (wrong_many x _ (by omega))
        · exact ih l _ _ (by omega) (by omega)
      · rfl
theorem checkR_seen (g : Ge) : scanC 0 0 (seen g) = checkR g := by
  unfold seen checkR
  exact scan_take 65538 _ 0 0 (by omega) (by omega)
theorem finL_append (a b : List Pt) : finL (a ++ b) = (finL a && finL b) := by unfold finL finLC; rw [List.all_append]
theorem finL_flat (l : List (List Pt)) : finL l.flatten = l.all finL := by
  induction l with
  | nil => rfl
  | cons a l ih => rw [List.flatten_cons, finL_append, ih, List.all_cons]
theorem finL_own (g : Ge) : finL (own g) = (finL g.f1 && g.f2.all finL) := by unfold own; rw [finL_append, finL_flat]
theorem wrong_eq (x : It) (n : Int) : wrongC x n = if 256 < x.f1 then 151 else if shapedB x = true then (if 65536 < n then 152 else if finL (own x.f0) = true then 0 else 155) else 150 := by
  unfold wrongC
  rw [shaped_eq, finL_own]
/-- The items from k on, so many geometries and points ahead of them. -/
def upAll (g : Ge) (k : Nat) : Nat := k + ptsOf ((seen g).take k)
def Fine (g : Ge) (k : Nat) : Prop := scanC 0 0 (seen g) = scanC k (upAll g k) ((seen g).drop k)
theorem upAll_succ (g : Ge) (k : Nat) (h : k < (seen g).length) : upAll g (k + 1) = upAll g k + 1 + (own (seen g)[k].f0).length := by
  unfold upAll
  rw [List.take_succ_eq_append_getElem h, ptsOf_snoc]
  omega
theorem Fine.bad {g : Ge} {k : Nat} (hf : Fine g k) (h : k < (seen g).length) (hw : wrongC (seen g)[k] ((upAll g (k + 1) : Nat) : Int) ≠ 0) : checkR g = some ((k : Int), wrongC (seen g)[k] ((upAll g (k + 1) : Nat) : Int)) := by
  rw [← checkR_seen, hf, List.drop_eq_getElem_cons h, scanC_cons, ← upAll_succ g k h, if_neg hw]
theorem Fine.next {g : Ge} {k : Nat} (hf : Fine g k) (h : k < (seen g).length) (hw : wrongC (seen g)[k] ((upAll g (k + 1) : Nat) : Int) = 0) : Fine g (k + 1) := by
  unfold Fine
  rw [hf, List.drop_eq_getElem_cons h, scanC_cons, ← upAll_succ g k h, if_pos hw]
end Go.Proofs.YtiiolhnpnlmkjaaDoor.Tree
namespace Go.Proofs.YtiiolhnpnlmkjaaDoor
open Go.RowKit Go.Extern.Stop Go.Stop Go.Extern

/-- errors.As(nil, target). -/
theorem as_nil (t : Value) (w : World) :
    Calls Tryd.prog 49 #[.nilIface, t] w fun e w' => e = .returned (.bool false) ∧ w' = w := by
  go_enter Tryd.func49, Tryd.ntmps49
  go_wp2
  go_ret
  exact ⟨rfl, rfl⟩

/-! ### closed facts: 109: *api.Fault, 111: **api.Fault, 70: api.Errno, 114: *api.Errno, 32: error, 182: reflectlite's rtype -/
theorem As_.valueOf79 (t : Addr) (w : World) : (ReflectliteValue.unpack (.iface 111 (.pointer (some t)))).run Tryd.prog w
    = .ok (.agg #[.pointer (some ⟨1, 111, none⟩), .pointer (some ⟨w.heap.size, 0, none⟩), .int .u64 150]) (w.alloc (.cells #[.pointer (some t)] 111)) := by kernel_rfl
theorem As_.type79 (a : Addr) (w : World) : (ReflectliteValue.methodAny (ReflectliteValue.valueError "reflectlite.Value.Type" 0) (fun t _ _ _ => ReflectliteType.toType t) #[.agg #[.pointer (some ⟨1, 111, none⟩), .pointer (some a), .int .u64 150]]).run Tryd.prog w
    = .ok (.iface 182 (.agg #[.pointer (some ⟨1, 111, none⟩)])) w := by kernel_rfl
theorem As_.methodKind (h : Value) (w : World) : (Go.method 328 182 (.agg #[h]) "Kind").run Tryd.prog w = .ok (126, h) w := by kernel_rfl
theorem As_.kind79 (w : World) : ((ReflectliteType.abiMethod fun t => (fun a : Nat => Value.int IntKind.u8 (a : Int)) <$> Rtype.kind t) #[.pointer (some ⟨1, 111, none⟩)]).run Tryd.prog w = .ok (.int .u8 22) w := by kernel_rfl
theorem As_.kind78 (w : World) : ((ReflectliteType.abiMethod fun t => (fun a : Nat => Value.int IntKind.u8 (a : Int)) <$> Rtype.kind t) #[.pointer (some ⟨1, 109, none⟩)]).run Tryd.prog w = .ok (.int .u8 22) w := by kernel_rfl

/-! ### THE ENTRIES THAT READ OR WRITE MEMORY: laws with a premise on the cell (after Derived/Lib/ReflectliteSlice.lean's manner: each unfolding a lemma of its own, by rfl) -/
theorem rlm (z : Sem Value) (f : TypeId → Addr → Nat → Nat → Sem Value) (v : Value) :
    ReflectliteValue.method z f #[v] = (do match ← ReflectliteValue.parts v with | none => z | some (t, a, fl) => f t a fl (fl % 32)) := rfl
theorem As_.parts79 (a : Addr) (w : World) : (ReflectliteValue.parts (.agg #[.pointer (some ⟨1, 111, none⟩), .pointer (some a), .int .u64 150])).run Tryd.prog w = .ok (some (111, a, 150)) w := by kernel_rfl
/-- (Value).IsNil at the Value of a **p.E that is not nil. -/
theorem As_.isNil79 (a p : Addr) (W : World) (ha : W.cell? a = some (.pointer (some p))) :
    (ReflectliteValue.method (ReflectliteValue.valueError "reflectlite.Value.IsNil" 0) ReflectliteValue.isNil #[.agg #[.pointer (some ⟨1, 111, none⟩), .pointer (some a), .int .u64 150]]).run Tryd.prog W = .ok (.bool false) W := by
  rw [rlm]
  simp only [Sem.run_bind, As_.parts79, Result.andThen]
  simp [ReflectliteValue.isNil, loadVar, isAgg, underlying, Tryd.underlying111, ha, Result.andThen]

theorem As_.methodElem (h : Value) (w : World) : (Go.method 328 182 (.agg #[h]) "Elem").run Tryd.prog w = .ok (138, .agg #[h]) w := by kernel_rfl
theorem As_.methodImplements (h : Value) (w : World) : (Go.method 328 182 (.agg #[h]) "Implements").run Tryd.prog w = .ok (139, .agg #[h]) w := by kernel_rfl
theorem As_.methodAssignableTo (h : Value) (w : World) : (Go.method 328 182 (.agg #[h]) "AssignableTo").run Tryd.prog w = .ok (136, .agg #[h]) w := by kernel_rfl
theorem As_.elem79 (w : World) : (ReflectliteType.method ReflectliteType.elem #[.agg #[.pointer (some ⟨1, 111, none⟩)]]).run Tryd.prog w = .ok (.iface 182 (.agg #[.pointer (some ⟨1, 109, none⟩)])) w := by kernel_rfl
theorem As_.implements78 (w : World) : (ReflectliteType.relation "Implements" ReflectliteType.implements_ #[.agg #[.pointer (some ⟨1, 109, none⟩)], .iface 182 (.agg #[.pointer (some ⟨1, 32, none⟩)])]).run Tryd.prog w = .ok (.bool true) w := by kernel_rfl
theorem As_.typeOf78 (v : Value) (w : World) : (ReflectliteType.typeOf #[.iface 109 v]).run Tryd.prog w = .ok (.iface 182 (.agg #[.pointer (some ⟨1, 109, none⟩)])) w := by kernel_rfl
theorem As_.assignable78 (w : World) : (ReflectliteType.relation "AssignableTo" ReflectliteType.assignableTo #[.agg #[.pointer (some ⟨1, 109, none⟩)], .iface 182 (.agg #[.pointer (some ⟨1, 109, none⟩)])]).run Tryd.prog w = .ok (.bool true) w := by kernel_rfl
theorem As_.valueOf78 (e : Addr) (w : World) : (ReflectliteValue.unpack (.iface 109 (.pointer (some e)))).run Tryd.prog w
    = .ok (.agg #[.pointer (some ⟨1, 109, none⟩), .pointer (some ⟨w.heap.size, 0, none⟩), .int .u64 150]) (w.alloc (.cells #[.pointer (some e)] 109)) := by kernel_rfl

theorem As_.elemOf79 (w : World) : (Rtype.elem? 111).run Tryd.prog w = .ok (some 109) w := by kernel_rfl
theorem As_.mk78 (p : Addr) (w : World) : (ReflectliteValue.mk 109 p ReflectliteValue.flagAddr).run Tryd.prog w = .ok (.agg #[.pointer (some ⟨1, 109, none⟩), .pointer (some p), .int .u64 406]) w := by kernel_rfl
/-- (Value).Elem at the Value of a **p.E that is not nil: the Value of the *p.E variable that it points to, addressable. -/
theorem As_.elemV79 (a p : Addr) (W : World) (ha : W.cell? a = some (.pointer (some p))) :
    (ReflectliteValue.method (ReflectliteValue.valueError "reflectlite.Value.Elem" 0) ReflectliteValue.elem #[.agg #[.pointer (some ⟨1, 111, none⟩), .pointer (some a), .int .u64 150]]).run Tryd.prog W
      = .ok (.agg #[.pointer (some ⟨1, 109, none⟩), .pointer (some p), .int .u64 406]) W := by
  rw [rlm]
  simp only [Sem.run_bind, As_.parts79, Result.andThen]
  simp [ReflectliteValue.elem, loadVar, isAgg, underlying, Tryd.underlying111, ha, Result.andThen, As_.elemOf79, As_.mk78]
theorem rls (v x : Value) : ReflectliteValue.set #[v, x] = (do
    let (some (dst, a, fl), some (src, b, _)) := (← ReflectliteValue.parts v, ← ReflectliteValue.parts x)
      | unsupported (.noEntry "extern/(internal/reflectlite.Value).Set.zeroValue")
    if fl / ReflectliteValue.flagAddr % 2 == 0 then unsupported (.noEntry "extern/(internal/reflectlite.Value).Set.unaddressable")
    let val ← loadVar src b
    if ← Rtype.directlyAssignable dst src then storeVar dst a val
    else if ← Rtype.implements dst src then
      if (← Rtype.kind src) == 20 then
        match val with
        | .nilIface => unsupported (.noEntry "extern/reflectlite: a nil value of one interface type handed on as a value of another")
        | _ => storeVar dst a val
      else storeVar dst a (.iface src val)
    else panicString ("reflectlite.Set: value of type " ++ (← Rtype.spelt src) ++ " is not assignable to type " ++ (← Rtype.spelt dst))
    pure (.tuple #[])) := rfl
theorem As_.parts78a (a : Addr) (w : World) : (ReflectliteValue.parts (.agg #[.pointer (some ⟨1, 109, none⟩), .pointer (some a), .int .u64 406])).run Tryd.prog w = .ok (some (109, a, 406)) w := by kernel_rfl
theorem As_.parts78 (a : Addr) (w : World) : (ReflectliteValue.parts (.agg #[.pointer (some ⟨1, 109, none⟩), .pointer (some a), .int .u64 150])).run Tryd.prog w = .ok (some (109, a, 150)) w := by kernel_rfl
theorem As_.direct78 (w : World) : (Rtype.directlyAssignable 109 109).run Tryd.prog w = .ok true w := by kernel_rfl
/-- (Value).Set: the *p.E variable at 'ta' gets what the Value's own variable 'b' holds. -/
theorem As_.set78 (ta b e : Addr) (old : Value) (W : World) (hb : W.cell? b = some (.pointer (some e))) (ht : W.cell? ta = some old) (hf : W.frozen? ta = false) :
    (ReflectliteValue.set #[.agg #[.pointer (some ⟨1, 109, none⟩), .pointer (some ta), .int .u64 406], .agg #[.pointer (some ⟨1, 109, none⟩), .pointer (some b), .int .u64 150]]).run Tryd.prog W
      = .ok (.tuple #[]) (W.setCell ta (.pointer (some e))) := by
  rw [rls]
  simp only [Sem.run_bind, As_.parts78a, As_.parts78, Result.andThen]
  simp [ReflectliteValue.flagAddr, loadVar, isAgg, underlying, Tryd.underlying109, hb, Result.andThen, As_.direct78, storeVar, Value.cells, storeCells, Addr.add]
  rw [run_store Tryd.prog W ta _ _ (by rfl)]
  simp [ht, hf]

set_option maxHeartbeats 4000000 in
theorem as_hit (e t : Addr) (old : Value) (w : World) (hg : w.cell? ⟨0, 0, none⟩ = some (.iface 182 (.agg #[.pointer (some ⟨1, 32, none⟩)]))) (ht0 : w.cell? t = some old) (hf0 : w.frozen? t = false) :
    Calls Tryd.prog 49 #[.iface 109 (.pointer (some e)), .iface 111 (.pointer (some t))] w fun ev w' => ev = .returned (.bool true) ∧ w' = ((((w.alloc (.cells #[.pointer (some t)] 111)).alloc (.cells #[.pointer (some ⟨1, 111, none⟩), .pointer (some ⟨w.heap.size, 0, none⟩), .int .u64 150] 155)).alloc (.cells #[.pointer (some ⟨1, 111, none⟩), .pointer (some ⟨w.heap.size, 0, none⟩), .int .u64 150] 155)).alloc (.cells #[.pointer (some e)] 109)).setCell t (.pointer (some e)) := by
  have h6 := @run_callFunc_extern Tryd.prog 77 _ (fun args => ReflectliteValue.unpack (args.getD 0 (.tuple #[]))) Tryd.func77 (by kernel_rfl) (by kernel_rfl) (by kernel_rfl) (by kernel_rfl)
  have h7 := @run_callFunc_extern Tryd.prog 78 _ (ReflectliteValue.methodAny (ReflectliteValue.valueError "reflectlite.Value.Type" 0) (fun t _ _ _ => ReflectliteType.toType t)) Tryd.func78 (by kernel_rfl) (by kernel_rfl) (by kernel_rfl) (by kernel_rfl)
  have h8 := @run_callFunc_extern Tryd.prog 79 _ (ReflectliteValue.method (ReflectliteValue.valueError "reflectlite.Value.IsNil" 0) ReflectliteValue.isNil) Tryd.func79 (by kernel_rfl) (by kernel_rfl) (by kernel_rfl) (by kernel_rfl)
  have h27 := @run_callFunc_extern Tryd.prog 126 _ (ReflectliteType.abiMethod fun t => do pure (.int .u8 (← Rtype.kind t))) Tryd.func126 (by kernel_rfl) (by kernel_rfl) (by kernel_rfl) (by kernel_rfl)
  have h37 := @run_callFunc_extern Tryd.prog 138 _ (ReflectliteType.method ReflectliteType.elem) Tryd.func138 (by kernel_rfl) (by kernel_rfl) (by kernel_rfl) (by kernel_rfl)
  have h38 := @run_callFunc_extern Tryd.prog 139 _ (ReflectliteType.relation "Implements" ReflectliteType.implements_) Tryd.func139 (by kernel_rfl) (by kernel_rfl) (by kernel_rfl) (by kernel_rfl)
  have h10 := @run_callFunc_extern Tryd.prog 101 _ ReflectliteType.typeOf Tryd.func101 (by kernel_rfl) (by kernel_rfl) (by kernel_rfl) (by kernel_rfl)
  have h35 := @run_callFunc_extern Tryd.prog 136 _ (ReflectliteType.relation "AssignableTo" ReflectliteType.assignableTo) Tryd.func136 (by kernel_rfl) (by kernel_rfl) (by kernel_rfl) (by kernel_rfl)
  have h11 := @run_callFunc_extern Tryd.prog 102 _ (ReflectliteValue.method (ReflectliteValue.valueError "reflectlite.Value.Elem" 0) ReflectliteValue.elem) Tryd.func102 (by kernel_rfl) (by kernel_rfl) (by kernel_rfl) (by kernel_rfl)
  have h12 := @run_callFunc_extern Tryd.prog 103 _ ReflectliteValue.set Tryd.func103 (by kernel_rfl) (by kernel_rfl) (by kernel_rfl) (by kernel_rfl)
  have tO := As_.typeOf78
  have mA := As_.methodAssignableTo
  have a25 := As_.assignable78
  have v25 := As_.valueOf78
  have f6 := As_.valueOf79
  have f7 := As_.type79
  have mK := As_.methodKind
  have mE := As_.methodElem
  have mI := As_.methodImplements
  have k27 := As_.kind79
  have k25 := As_.kind78
  have e27 := As_.elem79
  have i25 := As_.implements78
  have n8 := As_.isNil79 ⟨w.heap.size, 0, none⟩ t ((w.alloc (.cells #[.pointer (some t)] 111)).alloc (.cells #[.pointer (some ⟨1, 111, none⟩), .pointer (some ⟨w.heap.size, 0, none⟩), .int .u64 150] 155)) (by simp)
  have hlt : 0 < w.heap.size := by
    rcases Nat.eq_zero_or_pos w.heap.size with h0 | h
    · simp [World.cell?, h0] at hg
    · exact h
  have hg2 : ((w.alloc (.cells #[.pointer (some t)] 111)).alloc (.cells #[.pointer (some ⟨1, 111, none⟩), .pointer (some ⟨w.heap.size, 0, none⟩), .int .u64 150] 155)).cell? ⟨0, 0, none⟩ = some (.iface 182 (.agg #[.pointer (some ⟨1, 32, none⟩)])) := by
    rw [World.cell?_alloc_lt _ _ ⟨0, 0, none⟩ (by simp), World.cell?_alloc_lt _ _ ⟨0, 0, none⟩ hlt]; exact hg
  have htl : t.block < w.heap.size := by
    rcases Nat.lt_or_ge t.block w.heap.size with h | h
    · exact h
    · simp [World.cell?, Array.getElem?_eq_none h] at ht0
  have el := As_.elemV79 ⟨w.heap.size, 0, none⟩ t (((w.alloc (.cells #[.pointer (some t)] 111)).alloc (.cells #[.pointer (some ⟨1, 111, none⟩), .pointer (some ⟨w.heap.size, 0, none⟩), .int .u64 150] 155)).alloc (.cells #[.pointer (some ⟨1, 111, none⟩), .pointer (some ⟨w.heap.size, 0, none⟩), .int .u64 150] 155)) (by rw [World.cell?_alloc_lt _ _ ⟨w.heap.size, 0, none⟩ (by simp; omega)]; simp)
  have st := As_.set78 t ⟨w.heap.size + 1 + 1 + 1, 0, none⟩ e old ((((w.alloc (.cells #[.pointer (some t)] 111)).alloc (.cells #[.pointer (some ⟨1, 111, none⟩), .pointer (some ⟨w.heap.size, 0, none⟩), .int .u64 150] 155)).alloc (.cells #[.pointer (some ⟨1, 111, none⟩), .pointer (some ⟨w.heap.size, 0, none⟩), .int .u64 150] 155)).alloc (.cells #[.pointer (some e)] 109))
    (by rw [World.cell?_alloc_at _ _ _ _ (by simp)]; rfl)
    (by rw [World.cell?_alloc_lt _ _ t (by simp; omega), World.cell?_alloc_lt _ _ t (by simp; omega), World.cell?_alloc_lt _ _ t (by simp; omega), World.cell?_alloc_lt _ _ t htl]; exact ht0)
    (by rw [World.frozen?_alloc_old _ _ t (by simp; omega), World.frozen?_alloc_old _ _ t (by simp; omega), World.frozen?_alloc_old _ _ t (by simp; omega), World.frozen?_alloc_old _ _ t (Nat.ne_of_lt htl)]; exact hf0)
  go_enter Tryd.func49, Tryd.ntmps49
  go_wp2
  refine wp_loop_rounds 1 ?_
  rw [rounds_succ]
  go_wp2
  go_ret
  exact ⟨rfl, rfl⟩

/-! ### the target *api.Errno -/
theorem As_.valueOf77 (t : Addr) (w : World) : (ReflectliteValue.unpack (.iface 114 (.pointer (some t)))).run Tryd.prog w
    = .ok (.agg #[.pointer (some ⟨1, 114, none⟩), .pointer (some ⟨w.heap.size, 0, none⟩), .int .u64 150]) (w.alloc (.cells #[.pointer (some t)] 114)) := by kernel_rfl
theorem As_.type77 (a : Addr) (w : World) : (ReflectliteValue.methodAny (ReflectliteValue.valueError "reflectlite.Value.Type" 0) (fun t _ _ _ => ReflectliteType.toType t) #[.agg #[.pointer (some ⟨1, 114, none⟩), .pointer (some a), .int .u64 150]]).run Tryd.prog w
    = .ok (.iface 182 (.agg #[.pointer (some ⟨1, 114, none⟩)])) w := by kernel_rfl
theorem As_.kind77 (w : World) : ((ReflectliteType.abiMethod fun t => (fun a : Nat => Value.int IntKind.u8 (a : Int)) <$> Rtype.kind t) #[.pointer (some ⟨1, 114, none⟩)]).run Tryd.prog w = .ok (.int .u8 22) w := by kernel_rfl
theorem As_.kind65 (w : World) : ((ReflectliteType.abiMethod fun t => (fun a : Nat => Value.int IntKind.u8 (a : Int)) <$> Rtype.kind t) #[.pointer (some ⟨1, 70, none⟩)]).run Tryd.prog w = .ok (.int .u8 2) w := by kernel_rfl
theorem As_.parts77 (a : Addr) (w : World) : (ReflectliteValue.parts (.agg #[.pointer (some ⟨1, 114, none⟩), .pointer (some a), .int .u64 150])).run Tryd.prog w = .ok (some (114, a, 150)) w := by kernel_rfl
theorem As_.isNil77 (a p : Addr) (W : World) (ha : W.cell? a = some (.pointer (some p))) :
    (ReflectliteValue.method (ReflectliteValue.valueError "reflectlite.Value.IsNil" 0) ReflectliteValue.isNil #[.agg #[.pointer (some ⟨1, 114, none⟩), .pointer (some a), .int .u64 150]]).run Tryd.prog W = .ok (.bool false) W := by
  rw [rlm]
  simp only [Sem.run_bind, As_.parts77, Result.andThen]
  simp [ReflectliteValue.isNil, loadVar, isAgg, underlying, Tryd.underlying114, ha, Result.andThen]
theorem As_.elem77 (w : World) : (ReflectliteType.method ReflectliteType.elem #[.agg #[.pointer (some ⟨1, 114, none⟩)]]).run Tryd.prog w = .ok (.iface 182 (.agg #[.pointer (some ⟨1, 70, none⟩)])) w := by kernel_rfl
theorem As_.implements65 (w : World) : (ReflectliteType.relation "Implements" ReflectliteType.implements_ #[.agg #[.pointer (some ⟨1, 70, none⟩)], .iface 182 (.agg #[.pointer (some ⟨1, 32, none⟩)])]).run Tryd.prog w = .ok (.bool true) w := by kernel_rfl
theorem As_.typeOf65 (v : Value) (w : World) : (ReflectliteType.typeOf #[.iface 70 v]).run Tryd.prog w = .ok (.iface 182 (.agg #[.pointer (some ⟨1, 70, none⟩)])) w := by kernel_rfl
theorem As_.assignable65 (w : World) : (ReflectliteType.relation "AssignableTo" ReflectliteType.assignableTo #[.agg #[.pointer (some ⟨1, 70, none⟩)], .iface 182 (.agg #[.pointer (some ⟨1, 70, none⟩)])]).run Tryd.prog w = .ok (.bool true) w := by kernel_rfl
theorem As_.assignable78no (w : World) : (ReflectliteType.relation "AssignableTo" ReflectliteType.assignableTo #[.agg #[.pointer (some ⟨1, 109, none⟩)], .iface 182 (.agg #[.pointer (some ⟨1, 70, none⟩)])]).run Tryd.prog w = .ok (.bool false) w := by kernel_rfl
theorem As_.valueOf65 (c : Int) (w : World) : (ReflectliteValue.unpack (.iface 70 (.int .i64 c))).run Tryd.prog w
    = .ok (.agg #[.pointer (some ⟨1, 70, none⟩), .pointer (some ⟨w.heap.size, 0, none⟩), .int .u64 130]) (w.alloc (.cells #[.int .i64 c] 70)) := by kernel_rfl
theorem As_.elemOf77 (w : World) : (Rtype.elem? 114).run Tryd.prog w = .ok (some 70) w := by kernel_rfl
theorem As_.mk65 (p : Addr) (w : World) : (ReflectliteValue.mk 70 p ReflectliteValue.flagAddr).run Tryd.prog w = .ok (.agg #[.pointer (some ⟨1, 70, none⟩), .pointer (some p), .int .u64 386]) w := by kernel_rfl
theorem As_.elemV77 (a p : Addr) (W : World) (ha : W.cell? a = some (.pointer (some p))) :
    (ReflectliteValue.method (ReflectliteValue.valueError "reflectlite.Value.Elem" 0) ReflectliteValue.elem #[.agg #[.pointer (some ⟨1, 114, none⟩), .pointer (some a), .int .u64 150]]).run Tryd.prog W
      = .ok (.agg #[.pointer (some ⟨1, 70, none⟩), .pointer (some p), .int .u64 386]) W := by
  rw [rlm]
  simp only [Sem.run_bind, As_.parts77, Result.andThen]
  simp [ReflectliteValue.elem, loadVar, isAgg, underlying, Tryd.underlying114, ha, Result.andThen, As_.elemOf77, As_.mk65]
theorem As_.parts65a (a : Addr) (w : World) : (ReflectliteValue.parts (.agg #[.pointer (some ⟨1, 70, none⟩), .pointer (some a), .int .u64 386])).run Tryd.prog w = .ok (some (70, a, 386)) w := by kernel_rfl
theorem As_.parts65 (a : Addr) (w : World) : (ReflectliteValue.parts (.agg #[.pointer (some ⟨1, 70, none⟩), .pointer (some a), .int .u64 130])).run Tryd.prog w = .ok (some (70, a, 130)) w := by kernel_rfl
theorem As_.direct65 (w : World) : (Rtype.directlyAssignable 70 70).run Tryd.prog w = .ok true w := by kernel_rfl
theorem As_.set65 (ta b : Addr) (c : Int) (old : Value) (W : World) (hb : W.cell? b = some (.int .i64 c)) (ht : W.cell? ta = some old) (hf : W.frozen? ta = false) :
    (ReflectliteValue.set #[.agg #[.pointer (some ⟨1, 70, none⟩), .pointer (some ta), .int .u64 386], .agg #[.pointer (some ⟨1, 70, none⟩), .pointer (some b), .int .u64 130]]).run Tryd.prog W
      = .ok (.tuple #[]) (W.setCell ta (.int .i64 c)) := by
  rw [rls]
  simp only [Sem.run_bind, As_.parts65a, As_.parts65, Result.andThen]
  simp [ReflectliteValue.flagAddr, loadVar, isAgg, underlying, Tryd.underlying70, hb, Result.andThen, As_.direct65, storeVar, Value.cells, storeCells, Addr.add]
  rw [run_store Tryd.prog W ta _ _ (by rfl)]
  simp [ht, hf]
theorem As_.methodUnwrap (h : Value) (w : World) : (Go.method 328 109 h "Unwrap").run Tryd.prog w = .ok (131, h) w := by kernel_rfl
end Go.Proofs.YtiiolhnpnlmkjaaDoor
namespace Go.Proofs.YtiiolhnpnlmkjaaDoor
open Go.RowKit Go.Extern.Stop Go.Stop Go.Extern
theorem As_.no103 (v : Value) (xT : TypeId) (w : World) : (Instr.typeAssert (.iface 109 v) xT 187 true).run Tryd.prog w = .ok (.tuple #[.nilIface, .bool false]) w := run_typeAssert_lacksB Tryd.underlying187 (by kernel_rfl) (by kernel_rfl) v xT w
theorem As_.has106 (v : Value) (xT : TypeId) (w : World) : (Instr.typeAssert (.iface 109 v) xT 190 true).run Tryd.prog w = .ok (.tuple #[.iface 109 v, .bool true]) w := run_typeAssert_hasB Tryd.underlying190 (by kernel_rfl) v xT w
set_option maxHeartbeats 4000000 in
set_option maxRecDepth 100000 in
theorem as_code (g : Nat) (t : Addr) (c : Int) (old : Value) (w : World) (hg : w.cell? ⟨0, 0, none⟩ = some (.iface 182 (.agg #[.pointer (some ⟨1, 32, none⟩)]))) (he : w.cell? ⟨g, 1, none⟩ = some (.iface 70 (.int .i64 c))) (ht0 : w.cell? t = some old) (hf0 : w.frozen? t = false) :
    Calls Tryd.prog 49 #[.iface 109 (.pointer (some ⟨g, 0, none⟩)), .iface 114 (.pointer (some t))] w fun ev w' => ev = .returned (.bool true) ∧ w' = ((((w.alloc (.cells #[.pointer (some t)] 114)).alloc (.cells #[.pointer (some ⟨1, 114, none⟩), .pointer (some ⟨w.heap.size, 0, none⟩), .int .u64 150] 155)).alloc (.cells #[.pointer (some ⟨1, 114, none⟩), .pointer (some ⟨w.heap.size, 0, none⟩), .int .u64 150] 155)).alloc (.cells #[.int .i64 c] 70)).setCell t (.int .i64 c) := by
  have h6 := @run_callFunc_extern Tryd.prog 77 _ (fun args => ReflectliteValue.unpack (args.getD 0 (.tuple #[]))) Tryd.func77 (by kernel_rfl) (by kernel_rfl) (by kernel_rfl) (by kernel_rfl)
  have h7 := @run_callFunc_extern Tryd.prog 78 _ (ReflectliteValue.methodAny (ReflectliteValue.valueError "reflectlite.Value.Type" 0) (fun t _ _ _ => ReflectliteType.toType t)) Tryd.func78 (by kernel_rfl) (by kernel_rfl) (by kernel_rfl) (by kernel_rfl)
  have h8 := @run_callFunc_extern Tryd.prog 79 _ (ReflectliteValue.method (ReflectliteValue.valueError "reflectlite.Value.IsNil" 0) ReflectliteValue.isNil) Tryd.func79 (by kernel_rfl) (by kernel_rfl) (by kernel_rfl) (by kernel_rfl)
  have h27 := @run_callFunc_extern Tryd.prog 126 _ (ReflectliteType.abiMethod fun t => do pure (.int .u8 (← Rtype.kind t))) Tryd.func126 (by kernel_rfl) (by kernel_rfl) (by kernel_rfl) (by kernel_rfl)
  have h37 := @run_callFunc_extern Tryd.prog 138 _ (ReflectliteType.method ReflectliteType.elem) Tryd.func138 (by kernel_rfl) (by kernel_rfl) (by kernel_rfl) (by kernel_rfl)
  have h38 := @run_callFunc_extern Tryd.prog 139 _ (ReflectliteType.relation "Implements" ReflectliteType.implements_) Tryd.func139 (by kernel_rfl) (by kernel_rfl) (by kernel_rfl) (by kernel_rfl)
  have h10 := @run_callFunc_extern Tryd.prog 101 _ ReflectliteType.typeOf Tryd.func101 (by kernel_rfl) (by kernel_rfl) (by kernel_rfl) (by kernel_rfl)
  have h35 := @run_callFunc_extern Tryd.prog 136 _ (ReflectliteType.relation "AssignableTo" ReflectliteType.assignableTo) Tryd.func136 (by kernel_rfl) (by kernel_rfl) (by kernel_rfl) (by kernel_rfl)
  have h11 := @run_callFunc_extern Tryd.prog 102 _ (ReflectliteValue.method (ReflectliteValue.valueError "reflectlite.Value.Elem" 0) ReflectliteValue.elem) Tryd.func102 (by kernel_rfl) (by kernel_rfl) (by kernel_rfl) (by kernel_rfl)
  have h12 := @run_callFunc_extern Tryd.prog 103 _ ReflectliteValue.set Tryd.func103 (by kernel_rfl) (by kernel_rfl) (by kernel_rfl) (by kernel_rfl)
  have tO := As_.typeOf78
  have tO2 := As_.typeOf65
  have a65 := As_.assignable65
  have aNo := As_.assignable78no
  have v65 := As_.valueOf65
  have k65 := As_.kind65
  have i65 := As_.implements65
  have mU := As_.methodUnwrap
  have n103 := As_.no103
  have y106 := As_.has106
  have mA := As_.methodAssignableTo
  have a25 := As_.assignable78
  have v25 := As_.valueOf78
  have f6 := As_.valueOf77
  have f7 := As_.type77
  have mK := As_.methodKind
  have mE := As_.methodElem
  have mI := As_.methodImplements
  have k27 := As_.kind77
  have k25 := As_.kind78
  have e27 := As_.elem77
  have i25 := As_.implements78
  have n8 := As_.isNil77 ⟨w.heap.size, 0, none⟩ t ((w.alloc (.cells #[.pointer (some t)] 114)).alloc (.cells #[.pointer (some ⟨1, 114, none⟩), .pointer (some ⟨w.heap.size, 0, none⟩), .int .u64 150] 155)) (by simp)
  have hlt : 0 < w.heap.size := by
    rcases Nat.eq_zero_or_pos w.heap.size with h0 | h
    · simp [World.cell?, h0] at hg
    · exact h
  have hg2 : ((w.alloc (.cells #[.pointer (some t)] 114)).alloc (.cells #[.pointer (some ⟨1, 114, none⟩), .pointer (some ⟨w.heap.size, 0, none⟩), .int .u64 150] 155)).cell? ⟨0, 0, none⟩ = some (.iface 182 (.agg #[.pointer (some ⟨1, 32, none⟩)])) := by
    rw [World.cell?_alloc_lt _ _ ⟨0, 0, none⟩ (by simp), World.cell?_alloc_lt _ _ ⟨0, 0, none⟩ hlt]; exact hg
  have htl : t.block < w.heap.size := by
    rcases Nat.lt_or_ge t.block w.heap.size with h | h
    · exact h
    · simp [World.cell?, Array.getElem?_eq_none h] at ht0
  have el := As_.elemV77 ⟨w.heap.size, 0, none⟩ t (((w.alloc (.cells #[.pointer (some t)] 114)).alloc (.cells #[.pointer (some ⟨1, 114, none⟩), .pointer (some ⟨w.heap.size, 0, none⟩), .int .u64 150] 155)).alloc (.cells #[.pointer (some ⟨1, 114, none⟩), .pointer (some ⟨w.heap.size, 0, none⟩), .int .u64 150] 155)) (by rw [World.cell?_alloc_lt _ _ ⟨w.heap.size, 0, none⟩ (by simp; omega)]; simp)
  have st := As_.set65 t ⟨w.heap.size + 1 + 1 + 1, 0, none⟩ c old ((((w.alloc (.cells #[.pointer (some t)] 114)).alloc (.cells #[.pointer (some ⟨1, 114, none⟩), .pointer (some ⟨w.heap.size, 0, none⟩), .int .u64 150] 155)).alloc (.cells #[.pointer (some ⟨1, 114, none⟩), .pointer (some ⟨w.heap.size, 0, none⟩), .int .u64 150] 155)).alloc (.cells #[.int .i64 c] 70))
    (by rw [World.cell?_alloc_at _ _ _ _ (by simp)]; rfl)
    (by rw [World.cell?_alloc_lt _ _ t (by simp; omega), World.cell?_alloc_lt _ _ t (by simp; omega), World.cell?_alloc_lt _ _ t (by simp; omega), World.cell?_alloc_lt _ _ t htl]; exact ht0)
    (by rw [World.frozen?_alloc_old _ _ t (by simp; omega), World.frozen?_alloc_old _ _ t (by simp; omega), World.frozen?_alloc_old _ _ t (by simp; omega), World.frozen?_alloc_old _ _ t (Nat.ne_of_lt htl)]; exact hf0)
  have hgl : g < w.heap.size := by
    rcases Nat.lt_or_ge g w.heap.size with h | h
    · exact h
    · simp [World.cell?, Array.getElem?_eq_none h] at he
  have he2 : (((w.alloc (.cells #[.pointer (some t)] 114)).alloc (.cells #[.pointer (some ⟨1, 114, none⟩), .pointer (some ⟨w.heap.size, 0, none⟩), .int .u64 150] 155)).alloc (.cells #[.pointer (some ⟨1, 114, none⟩), .pointer (some ⟨w.heap.size, 0, none⟩), .int .u64 150] 155)).cell? ⟨g, 1, none⟩ = some (.iface 70 (.int .i64 c)) := by
    rw [World.cell?_alloc_lt _ _ ⟨g, 1, none⟩ (by simp; omega), World.cell?_alloc_lt _ _ ⟨g, 1, none⟩ (by simp; omega), World.cell?_alloc_lt _ _ ⟨g, 1, none⟩ hgl]; exact he
  go_enter Tryd.func49, Tryd.ntmps49
  go_wp2
  refine wp_loop_rounds 2 ?_
  rw [rounds_succ]
  go_wp2
  rw [rounds_succ]
  go_wp2
  go_ret
  exact ⟨rfl, rfl⟩

end Go.Proofs.YtiiolhnpnlmkjaaDoor
namespace Go.Proofs.YtiiolhnpnlmkjaaDoor.Tree
open Go.Proofs.YtiiolhnpnlmkjaaDoor
open Go.RowKit Go.Extern.Stop Go.Stop Go.Extern Go.Proofs.YtiiolhnpnlmkjaaDoorW.PrintWords
def Handle (w : World) : Prop := w.cell? ⟨0, 0, none⟩ = some (.iface 182 (.agg #[.pointer (some ⟨1, 32, none⟩)]))
theorem cell5 {w : World} {a : Addr} {v : Value} (h : w.cell? a = some v) (o1 o2 o3 o4 o5 : Obj) : (((((w.alloc o1).alloc o2).alloc o3).alloc o4).alloc o5).cell? a = some v := by
  have hl := World.block_lt_of_cell? w a h
  rw [World.cell?_alloc_lt _ _ a (by simp; omega), World.cell?_alloc_lt _ _ a (by simp; omega), World.cell?_alloc_lt _ _ a (by simp; omega), World.cell?_alloc_lt _ _ a (by simp; omega), World.cell?_alloc_lt _ _ a hl]; exact h
theorem cell_lt {w : World} {a : Addr} {v : Value} (h : w.cell? a = some v) : a.block < w.heap.size := World.block_lt_of_cell? w a h
set_option maxHeartbeats 4000000 in
set_option maxRecDepth 100000 in
theorem code_calls (g : Nat) (c : Int) (w : World) (hg : Handle w) (he : w.cell? ⟨g, 1, none⟩ = some (.iface 70 (.int .i64 c))) :
    Calls Tryd.prog 32 #[.iface 109 (.pointer (some ⟨g, 0, none⟩))] w fun e w' => e = .returned (.int .i64 c) ∧ Below w.heap.size w w' := by
  have hgA : (w.alloc (.cells #[.int .i64 0] 70)).cell? ⟨0, 0, none⟩ = some (.iface 182 (.agg #[.pointer (some ⟨1, 32, none⟩)])) := by
    rw [World.cell?_alloc_lt _ _ ⟨0, 0, none⟩ (cell_lt hg)]; exact hg
  have heA : (w.alloc (.cells #[.int .i64 0] 70)).cell? ⟨g, 1, none⟩ = some (.iface 70 (.int .i64 c)) := by
    rw [World.cell?_alloc_lt _ _ ⟨g, 1, none⟩ (cell_lt he)]; exact he
  have htA : (w.alloc (.cells #[.int .i64 0] 70)).cell? ⟨w.heap.size, 0, none⟩ = some (.int .i64 0) := by simp
  have hfA : (w.alloc (.cells #[.int .i64 0] 70)).frozen? ⟨w.heap.size, 0, none⟩ = false := by simp
  go_enter Tryd.func32, Tryd.ntmps32
  go_wp2_with fail
  refine (as_code g ⟨w.heap.size, 0, none⟩ c (.int .i64 0) _ hgA heA htA hfA).mono ?_
  rintro e w' ⟨rfl, rfl⟩
  go_wp2_with fail
  go_ret
  exact ⟨rfl, by repeat (first | exact Below.refl _ _ | apply below_alloc)⟩
set_option maxHeartbeats 4000000 in
set_option maxRecDepth 100000 in
theorem place_calls (g : Nat) (p : Int) (w : World) (hg : Handle w) (he : w.cell? ⟨g, 0, none⟩ = some (.int .i64 p)) :
    Calls Tryd.prog 30 #[.iface 109 (.pointer (some ⟨g, 0, none⟩))] w fun e w' => e = .returned (.int .i64 p) ∧ Below w.heap.size w w' := by
  have hgA : (w.alloc (.cells #[.pointer none] 109)).cell? ⟨0, 0, none⟩ = some (.iface 182 (.agg #[.pointer (some ⟨1, 32, none⟩)])) := by
    rw [World.cell?_alloc_lt _ _ ⟨0, 0, none⟩ (cell_lt hg)]; exact hg
  have htA : (w.alloc (.cells #[.pointer none] 109)).cell? ⟨w.heap.size, 0, none⟩ = some (.pointer none) := by simp
  have hfA : (w.alloc (.cells #[.pointer none] 109)).frozen? ⟨w.heap.size, 0, none⟩ = false := by simp
  have he5 := fun o1 o2 o3 o4 o5 => cell5 he o1 o2 o3 o4 o5
  go_enter Tryd.func30, Tryd.ntmps30
  go_wp2_with fail
  refine (as_hit ⟨g, 0, none⟩ ⟨w.heap.size, 0, none⟩ (.pointer none) _ hgA htA hfA).mono ?_
  rintro e w' ⟨rfl, rfl⟩
  go_wp2_with fail
  go_ret
  exact ⟨rfl, by repeat (first | exact Below.refl _ _ | apply below_alloc)⟩
theorem Handle_below {w w1 : World} (h : Handle w) (hb : Below w.heap.size w w1) : Handle w1 := (hb.cell (World.block_lt_of_cell? w _ h)).trans h
set_option maxHeartbeats 4000000 in
set_option maxRecDepth 100000 in
theorem code_nil (w : World) : Calls Tryd.prog 32 #[.nilIface] w fun e w' => e = .returned (.int .i64 0) ∧ Below w.heap.size w w' := by
  go_enter Tryd.func32, Tryd.ntmps32
  go_wp2_with fail
  go_ret
  exact ⟨rfl, by repeat (first | exact Below.refl _ _ | apply below_alloc)⟩
set_option maxHeartbeats 4000000 in
set_option maxRecDepth 100000 in
theorem place_nil (w : World) : Calls Tryd.prog 30 #[.nilIface] w fun e w' => e = .returned (.int .i64 (-1)) ∧ Below w.heap.size w w' := by
  go_enter Tryd.func30, Tryd.ntmps30
  go_wp2_with fail
  refine (as_nil _ _).mono ?_
  rintro e w' ⟨rfl, rfl⟩
  go_wp2_with fail
  go_ret
  exact ⟨rfl, by repeat (first | exact Below.refl _ _ | apply below_alloc)⟩
theorem Code_calls (v : Value) (x : Option (Int × Int)) (w : World) (hg : Handle w) (hv : ErrV w v x) :
    Calls Tryd.prog 32 #[v] w fun e w' => e = .returned (.int .i64 (codeOf x)) ∧ Below w.heap.size w w' := by
  cases x with
  | none => obtain rfl : v = .nilIface := hv; exact code_nil w
  | some x =>
    obtain ⟨g, rfl, h⟩ := hv
    exact code_calls g x.2 w hg ((blk_cell h 1).trans rfl)
theorem Place_calls (v : Value) (x : Option (Int × Int)) (w : World) (hg : Handle w) (hv : ErrV w v x) :
    Calls Tryd.prog 30 #[v] w fun e w' => e = .returned (.int .i64 (placeOf x)) ∧ Below w.heap.size w w' := by
  cases x with
  | none => obtain rfl : v = .nilIface := hv; exact place_nil w
  | some x =>
    obtain ⟨g, rfl, h⟩ := hv
    exact place_calls g x.1 w hg ((blk_cell h 0).trans rfl)
end Go.Proofs.YtiiolhnpnlmkjaaDoor.Tree
namespace Go.Proofs.YtiiolhnpnlmkjaaDoor.Tree
open Go.RowKit Go.Proofs.YtiiolhnpnlmkjaaDoor.PWkbPrints Go.Proofs.YtiiolhnpnlmkjaaDoorW.PrintWords Go.Proofs.YtiiolhnpnlmkjaaDoorW.PrintLast Go.Proofs.YtiiolhnpnlmkjaaDoorW.PrintMore
set_option linter.unusedVariables false
set_option linter.unusedSimpArgs false
attribute [local go_sem] Oper.semAt_some max2_int max_two min2_int min_two
/-- What is written: nothing, where the check does not take the tree. -/
def mixedB (os : List Bool) (g : Ge) : List Int := if checkR g = none then geoB os g 0 else []
theorem ErrV.iface {w : World} {v : Value} {a c : Int} (h : ErrV w v (some (a, c))) : ∃ g : Nat, v = .iface 109 (.pointer (some ⟨g, 0, none⟩)) := by
  obtain ⟨g, e, _⟩ := h
  exact ⟨g, e⟩
set_option maxRecDepth 100000 in
set_option maxHeartbeats 16000000 in
theorem mixed_calls (v : Value) (g : Ge) (O : Option Addr) (co : Nat) (os : List Bool) (w : World) (hv : IsG w v g) (ho : Kd.bool.C w O os.length os) (hbk : g.bulk ≤ 2097152) (hos : os.length ≤ 1152921504606846976) :
    Calls Tryd.prog 24 #[v, .slice O os.length co] w fun e w' => ∃ u er, e = .returned (.tuple #[u, er]) ∧ kB.R 5 w' w.heap.size (fun _ => True) u (mixedB os g) ∧ ErrV w' er (checkR g) ∧ Below w.heap.size w w' := by
  have hv' := hv
  obtain ⟨A1, c1, A2, c2, A3, c3, rfl, l1, h1, l2, h2, l3, h3⟩ := hv'
  have HV := Aside0.mk hv
  have HO := Aside0.mk ho
  clear hv ho h1 h2 h3
  go_enter Tryd.func24, Tryd.ntmps24
  go_wp2_with fail
  obtain ⟨gb, hgb⟩ : ∃ y, y = w.heap.size := ⟨_, rfl⟩
  obtain ⟨W1, hW1⟩ : ∃ y, y = w.alloc (.cells #[.int .i64 g.f0, .slice A1 g.f1.length c1, .slice A2 g.f2.length c2, .slice A3 g.f3.length c3] 28) := ⟨_, rfl⟩
  rw [← hW1, ← hgb]
  have HB1 := Aside0.mk (show Below w.heap.size w W1 by rw [hW1]; exact below_alloc (Below.refl _ _) _)
  have BK := Aside0.mk (show W1.heap[gb]? = some (.cells #[.int .i64 g.f0, .slice A1 g.f1.length c1, .slice A2 g.f2.length c2, .slice A3 g.f3.length c3] 28 (0, 0)) by rw [hW1, hgb]; exact World.alloc_heap_new _ _)
  clear hW1 hgb
  refine (check_calls _ g W1 (HV.out.below HB1.out) (by omega)).mono ?_
  rintro e W2 ⟨er, rfl, her, hb2⟩
  have HB2 := Aside0.mk (below_step HB1.out hb2)
  have BK2 := Aside0.mk ((hb2.block gb (blk_lt BK.out)).trans BK.out)
  have HER := Aside0.mk her
  clear HB1 BK her hb2
  rcases hck : checkR g with _ | ⟨a, c⟩
  · obtain rfl : er = .nilIface := by have h9 := HER.out; rw [hck] at h9; exact h9
    have hb3 : Below W2.heap.size W2 (W2.alloc (.cells #[.slice none 0 0, .slice O os.length co, .int .i64 0] 103)) := below_alloc (Below.refl _ _) _
    have z0_ := pw_cell_below hb3 ((blk_cell BK2.out 0).trans rfl : W2.cell? ⟨gb, 0, none⟩ = some (.int .i64 g.f0))
    have z1_ := pw_cell_below hb3 ((blk_cell BK2.out 1).trans rfl : W2.cell? ⟨gb, 1, none⟩ = some (.slice A1 g.f1.length c1))
    have z2_ := pw_cell_below hb3 ((blk_cell BK2.out 2).trans rfl : W2.cell? ⟨gb, 2, none⟩ = some (.slice A2 g.f2.length c2))
    have z3_ := pw_cell_below hb3 ((blk_cell BK2.out 3).trans rfl : W2.cell? ⟨gb, 3, none⟩ = some (.slice A3 g.f3.length c3))
    have HP := Aside0.mk (show Pr 103 cfP W2 (W2.alloc (.cells #[.slice none 0 0, .slice O os.length co, .int .i64 0] 103)) W2.heap.size O co os 0 (.slice none 0 0) [] from
      ⟨World.alloc_heap_new _ _, Kd.R_nil _ _ _ _ _, Kd.C_below HO.out HB2.out, Nat.le_refl _, hb3⟩)
    clear hb3
    go_wp2_with fail
    refine (pgeom_calls g.bulk g W2 _ W2.heap.size O co os 0 _ [] _ (Nat.le_refl _) HP.out (HV.out.below HB2.out) (by simp; omega) (by omega) hos).mono ?_
    rintro e W4 ⟨rfl, v4, hp4, -⟩
    obtain ⟨A4, c4, rfl⟩ := Kd.R_slice hp4.r
    have z0_ : W4.cell? ⟨W2.heap.size, 0, none⟩ = some (.slice A4 ([] ++ geoB os g 0).length c4) := (blk_cell hp4.c 0).trans rfl
    rw [List.nil_append] at z0_ hp4
    have HP4 := Aside0.mk hp4
    clear hp4 HP
    go_wp2_with fail
    refine bodyPost_ret (results_tmp2 rfl _ _ _) rfl ?_
    exact ⟨.slice A4 (geoB os g 0).length c4, .nilIface, rfl, by rw [mixedB, if_pos hck]; exact Kd.R_lower (Kd.R_mono HP4.out.r (fun _ _ => trivial)) HB2.out.size, by rw [hck]; rfl, below_step HB2.out HP4.out.K⟩
  · obtain ⟨ge, rfl⟩ := ErrV.iface (by have h9 := HER.out; rw [hck] at h9; exact h9)
    go_wp2_with fail
    refine bodyPost_ret (results_tmp2 rfl _ _ _) rfl ?_
    exact ⟨.slice none 0 0, .iface 109 (.pointer (some ⟨ge, 0, none⟩)), rfl, by rw [mixedB, if_neg (by rw [hck]; simp)]; exact Kd.R_nil _ _ _ _ _, HER.out, HB2.out⟩
theorem bool_lit (W : World) (le : Bool) : Kd.bool.C (W.alloc (.cells #[.bool le] 4)) (some ⟨W.heap.size, 0, none⟩) 1 [le] := by
  have h : Kd.bool.R 4 (W.alloc (.cells #[.bool le] 4)) W.heap.size (fun _ => True) (.slice (some ⟨W.heap.size, 0, none⟩) 1 1) [le] :=
    Kd.R_of_own ⟨by simp [encs], .inr ⟨W.heap.size, 1, #[.bool le], rfl, Nat.le_refl _, World.alloc_heap_new _ _, Nat.le_refl _, by decide, by simp, by simp [encs]⟩⟩ (fun _ _ => trivial)
  exact (Kd.R_reads' h).2.2
set_option maxRecDepth 100000 in
set_option maxHeartbeats 16000000 in
theorem print_calls (v : Value) (g : Ge) (le : Bool) (w : World) (hv : IsG w v g) (hbk : g.bulk ≤ 2097152) :
    Calls Tryd.prog 22 #[v, .bool le] w fun e w' => ∃ u er, e = .returned (.tuple #[u, er]) ∧ kB.R 5 w' w.heap.size (fun _ => True) u (mixedB [le] g) ∧ ErrV w' er (checkR g) ∧ Below w.heap.size w w' := by
  have hv' := hv
  obtain ⟨A1, c1, A2, c2, A3, c3, rfl, l1, h1, l2, h2, l3, h3⟩ := hv'
  have HV := Aside0.mk hv
  clear hv h1 h2 h3
  go_enter Tryd.func22, Tryd.ntmps22
  go_wp2_with fail
  have hba : Below w.heap.size w (w.alloc (.cells #[.int .i64 g.f0, .slice A1 g.f1.length c1, .slice A2 g.f2.length c2, .slice A3 g.f3.length c3] 28)) := below_alloc (Below.refl _ _) _
  have hbb : Below w.heap.size w ((w.alloc (.cells #[.int .i64 g.f0, .slice A1 g.f1.length c1, .slice A2 g.f2.length c2, .slice A3 g.f3.length c3] 28)).alloc (.cells #[.bool le] 4)) := below_alloc hba _
  have hlt := bool_lit (w.alloc (.cells #[.int .i64 g.f0, .slice A1 g.f1.length c1, .slice A2 g.f2.length c2, .slice A3 g.f3.length c3] 28)) le
  rw [show (w.alloc (.cells #[.int .i64 g.f0, .slice A1 g.f1.length c1, .slice A2 g.f2.length c2, .slice A3 g.f3.length c3] 28)).heap.size = w.heap.size + 1 from by simp] at hlt
  refine (mixed_calls _ g (some ⟨w.heap.size + 1, 0, none⟩) 1 [le] _ (HV.out.below hbb) hlt hbk (by simp)).mono ?_
  rintro e W2 ⟨u, er, rfl, hu, her, hb2⟩
  have HU := Aside0.mk (And.intro (Kd.R_lower hu hbb.size) (And.intro her (below_step hbb hb2)))
  clear hba hbb hlt hu her hb2
  go_wp2_with fail
  refine bodyPost_ret (results_tmp2 rfl _ _ _) rfl ?_
  exact ⟨u, er, rfl, HU.out.1, HU.out.2.1, HU.out.2.2⟩
set_option maxRecDepth 100000 in
set_option maxHeartbeats 8000000 in
theorem told_yes (v : Value) (x : Option (Int × Int)) (at_ : Int) (w : World) (hg : Handle w) (hv : ErrV w v x) (hc : x ≠ none → codeOf x ≠ 0 ∧ at_ = placeOf x) :
    Calls Tryd.prog 14 #[v, .int .i64 (codeOf x), .int .i64 at_] w fun e w' => e = .returned (.bool true) ∧ Below w.heap.size w w' := by
  rcases hx : x with _ | ⟨a, c⟩
  · subst hx
    obtain rfl : v = .nilIface := hv
    have h0 : codeOf none = 0 := rfl
    rw [h0]
    clear hc
    go_enter Tryd.func14, Tryd.ntmps14
    go_wp2_with fail
    go_ret
    exact ⟨rfl, Below.refl _ _⟩
  · obtain ⟨h0, rfl⟩ := hc (by rw [hx]; simp)
    rw [← hx]
    obtain ⟨ge, rfl⟩ := ErrV.iface (by rw [hx] at hv; exact hv)
    have HG := Aside0.mk hg
    have HV := Aside0.mk hv
    obtain ⟨cc, hcc⟩ : ∃ y, y = codeOf x := ⟨_, rfl⟩
    obtain ⟨pp, hpp⟩ : ∃ y, y = placeOf x := ⟨_, rfl⟩
    have HCC := Aside0.mk hcc
    have HPP := Aside0.mk hpp
    rw [← hcc] at h0 ⊢
    rw [← hpp]
    have h0' : (cc == 0) = false := beq_eq_false_iff_ne.2 h0
    clear hcc hpp hx hg hv hc
    go_enter Tryd.func14, Tryd.ntmps14
    go_wp2_with fail
    refine (Code_calls _ x w HG.out HV.out).mono ?_
    rintro e w1 ⟨rfl, hb1⟩
    have HB1 := Aside0.mk hb1
    clear hb1
    rw [← HCC.out]
    go_wp2_with fail
    refine (Place_calls _ x w1 (Handle_below HG.out HB1.out) (HV.out.below HB1.out)).mono ?_
    rintro e w2 ⟨rfl, hb2⟩
    have HB2 := Aside0.mk (below_step HB1.out hb2)
    clear hb2
    rw [← HPP.out]
    go_wp2_with fail
    go_ret
    exact ⟨by simp, HB2.out⟩
end Go.Proofs.YtiiolhnpnlmkjaaDoor.Tree
namespace Go.Proofs.YtiiolhnpnlmkjaaDoor.Tree
open Go.RowKit Go.Proofs.YtiiolhnpnlmkjaaDoor.PWkbPrints Go.Proofs.YtiiolhnpnlmkjaaDoorW.PrintWords Go.Proofs.YtiiolhnpnlmkjaaDoorW.PrintLast Go.Proofs.YtiiolhnpnlmkjaaDoorW.PrintMore
set_option linter.unusedVariables false
set_option linter.unusedSimpArgs false
attribute [local go_sem] Oper.semAt_some max2_int max_two min2_int min_two
end Go.Proofs.YtiiolhnpnlmkjaaDoor.Tree
namespace Go.Proofs.YtiiolhnpnlmkjaaDoor.Tree
open Go.RowKit Go.Proofs.YtiiolhnpnlmkjaaDoor.PWkbPrints Go.Proofs.YtiiolhnpnlmkjaaDoorW.PrintWords Go.Proofs.YtiiolhnpnlmkjaaDoorW.PrintLast Go.Proofs.YtiiolhnpnlmkjaaDoorW.PrintMore
set_option linter.unusedVariables false
theorem scan_all : ∀ (l : List It) (k n : Nat), scanC k n l = none → ∀ x ∈ l, shapedB x = true := by
  intro l
  induction l with
  | nil => intro k n _ x hx; cases hx
  | cons y l ih =>
    intro k n h x hx
    rw [scanC_cons] at h
    split at h
    · rename_i h0
      rcases List.mem_cons.1 hx with rfl | hx
      · rw [wrong_eq] at h0
        by_cases hs : shapedB x = true
        · exact hs
        · exfalso
          rw [if_neg hs] at h0
          split at h0 <;> cases h0
      · exact ih _ _ h x hx
    · cases h
/-- Every geometry of a tree is shaped. -/
def AllS (g : Ge) (lvl o : Int) : Prop := ∀ x ∈ nodes g lvl o, shapedB x = true
theorem AllS.of {g : Ge} (h : checkR g = none) : AllS g 1 0 := scan_all _ _ _ h
theorem AllS.here {g : Ge} {lvl o : Int} (h : AllS g lvl o) : shapedB ⟨g, lvl, o⟩ = true := h _ (by rw [nodes_eq]; exact List.mem_cons_self ..)
theorem AllS.part {g p : Ge} {lvl o : Int} (h : AllS g lvl o) (hp : p ∈ g.f3) : AllS p (lvl + 1) g.f0 := by
  intro x hx
  refine h x ?_
  rw [nodes_eq]
  refine List.mem_cons_of_mem _ ?_
  rw [nodesL_flat]
  exact List.mem_flatten.2 ⟨_, List.mem_map.2 ⟨p, hp, rfl⟩, hx⟩
end Go.Proofs.YtiiolhnpnlmkjaaDoor.Tree
namespace Go.Proofs.YtiiolhnpnlmkjaaDoor.Tree
open Go.RowKit Go.Proofs.YtiiolhnpnlmkjaaDoor.PWkbPrints Go.Proofs.YtiiolhnpnlmkjaaDoorW.PrintWords Go.Proofs.YtiiolhnpnlmkjaaDoorW.PrintLast Go.Proofs.YtiiolhnpnlmkjaaDoorW.PrintMore Go.Proofs.YtiiolhnpnlmkjaaDoor.Rdr
set_option linter.unusedVariables false
/-! ### geomR in its parts -/
def headR (b : List Int) (a : Nat) : Except (Int × Int) (Bool × Int) :=
  if b.length < a + 1 then .error (a, 160) else if 1 < numB b a 1 false % 256 then .error (a, 170) else if b.length < a + 1 + 4 then .error (((a + 1 : Nat) : Int), 160) else
    if numB b (a + 1) 4 (decide (numB b a 1 false % 256 = 1)) % 4294967296 < 1 ∨ 7 < numB b (a + 1) 4 (decide (numB b a 1 false % 256 = 1)) % 4294967296 then .error ((a : Int) + 1, 171) else
      .ok (decide (numB b a 1 false % 256 = 1), numB b (a + 1) 4 (decide (numB b a 1 false % 256 = 1)) % 4294967296)
def bodyR (b : List Int) (deep : Int) (n : Nat) (p : Nat) (level : Int) (le : Bool) (k : Int) : Except (Int × Int) (Ge × Nat × List Bool) :=
  if k = 1 then (placeR b p le).map fun l => (⟨k, l, [], []⟩, p + 16, [le])
  else if k = 2 then match countR b p le 16 with
    | .error e => .error e
    | .ok m => (pointsR b (p + 4) le m).map fun l => (⟨k, l, [], []⟩, p + 4 + 16 * m, [le])
  else if k = 3 then match countR b p le 20 with
    | .error e => .error e
    | .ok m => (ringsR b le m (p + 4)).map fun r => (⟨k, [], r.1, []⟩, r.2, [le])
  else match countR b p le (if k = 4 then 21 else 9) with
    | .error e => .error e
    | .ok m => (partsR (fun q => geomR b deep n q (level + 1) k) m (p + 4)).map fun r => (⟨k, [], [], r.1⟩, r.2.1, le :: r.2.2)
theorem geomR_eq (b : List Int) (deep : Int) (n a : Nat) (level home : Int) : geomR b deep (n + 1) a level home =
    match headR b a with
    | .error e => .error e
    | .ok h => if decide (home = 0 ∨ home = 7 ∨ h.2 = home - 3) = false then .error ((a : Int) + 1, 172) else if deep < level then .error (a, 191) else bodyR b deep n (a + 1 + 4) level h.1 h.2 := by
  rw [geomR]
  unfold headR
  by_cases h1 : b.length < a + 1
  · rw [if_pos h1, if_pos h1]
  rw [if_neg h1, if_neg h1]
  by_cases h2 : 1 < numB b a 1 false % 256
  · rw [if_pos h2, if_pos h2]
  rw [if_neg h2, if_neg h2]
  by_cases h3 : b.length < a + 1 + 4
  · rw [if_pos h3, if_pos h3]
  rw [if_neg h3, if_neg h3]
  generalize numB b (a + 1) 4 (decide (numB b a 1 false % 256 = 1)) % 4294967296 = k
  generalize decide (numB b a 1 false % 256 = 1) = le
  by_cases h4 : k < 1 ∨ 7 < k
  · rw [if_pos h4, if_pos h4]
  rw [if_neg h4, if_neg h4]
  rfl
/-! ### what a sound tree is -/
structure Gd (x : It) : Prop where
  s : shapedB x = true
  f : finL (own x.f0) = true
  r : ∀ q ∈ own x.f0, (0 ≤ q.f0 ∧ q.f0 < 18446744073709551616) ∧ 0 ≤ q.f1 ∧ q.f1 < 18446744073709551616
def AllG (g : Ge) (lvl o : Int) : Prop := ∀ x ∈ nodes g lvl o, Gd x
theorem AllG.here {g : Ge} {lvl o : Int} (h : AllG g lvl o) : Gd ⟨g, lvl, o⟩ := h _ (by rw [nodes_eq]; exact List.mem_cons_self ..)
theorem part_nodes {g p : Ge} (lvl o : Int) (hp : p ∈ g.f3) {x : It} (hx : x ∈ nodes p (lvl + 1) g.f0) : x ∈ nodes g lvl o := by
  rw [nodes_eq]
  refine List.mem_cons_of_mem _ ?_
  rw [nodesL_flat]
  exact List.mem_flatten.2 ⟨_, List.mem_map.2 ⟨p, hp, rfl⟩, hx⟩
theorem AllG.part {g p : Ge} {lvl o : Int} (h : AllG g lvl o) (hp : p ∈ g.f3) : AllG p (lvl + 1) g.f0 := fun x hx => h x (part_nodes lvl o hp hx)
theorem shaped_all {g : Ge} {lvl o : Int} (h : shapedB ⟨g, lvl, o⟩ = true) : (1 ≤ g.f0 ∧ g.f0 ≤ 7) ∧ fitsB g.f0 o = true ∧ (2 < g.f0 → g.f1 = []) ∧ (g.f0 ≠ 3 → g.f2 = []) ∧ (g.f0 < 4 → g.f3 = []) ∧ (∀ r ∈ g.f2, r ≠ []) ∧ (g.f0 = 1 → g.f1.length ≤ 1) := by
  unfold shapedB kindB lacksB at h
  simp only [Bool.and_eq_true, Bool.or_eq_true, decide_eq_true_iff, Bool.not_eq_true', Bool.or_eq_false_iff, Bool.and_eq_false_iff, decide_eq_false_iff_not, List.all_eq_true] at h
  obtain ⟨hk, hf, ⟨h1, h2, h3⟩, hr, h4⟩ := h
  refine ⟨hk, hf, fun h => ?_, fun h => ?_, fun h => ?_, fun r hm e => ?_, fun h => ?_⟩
  · refine List.length_eq_zero_iff.1 ?_
    rcases h1 with h1 | h1 <;> omega
  · refine List.length_eq_zero_iff.1 ?_
    rcases h2 with h2 | h2
    · omega
    · exact absurd h h2
  · refine List.length_eq_zero_iff.1 ?_
    rcases h3 with h3 | h3 <;> omega
  · have := hr r hm
    subst e
    cases this
  · rcases h4 with h4 | h4
    · exact absurd h h4
    · exact h4
theorem fin_pt {q : Pt} {l : List Pt} (h : finL l = true) (hq : q ∈ l) : classOf q.f0 ≤ 2 ∧ classOf q.f1 ≤ 2 := by
  unfold finL finLC at h
  have := List.all_eq_true.1 h q hq
  unfold finC at this
  simp only [Bool.and_eq_true, decide_eq_true_iff] at this
  exact this
theorem nle3 {z : Int} (h : z ≤ 2) : ¬ 3 ≤ z := by omega
theorem n4 {z w : Int} (h : z ≤ 2) : ¬ (z = 4 ∧ w = 4) := by omega
theorem class_nan : classOf 9221120237041090560 = 4 := by kernel_rfl
/-! ### the parts of a print, whole or cut short -/
def CutE {α : Type} (r : Except (Int × Int) α) (k : Nat) : Prop := ∃ p e : Int, r = .error (p, e) ∧ (e = 160 ∨ e = 173) ∧ 0 ≤ p ∧ p ≤ k
structure Two {α : Type} (r : Except (Int × Int) α) (v : α) (e k : Nat) : Prop where
  y : e ≤ k → r = .ok v
  n : k < e → CutE r k
theorem Two.map {α β : Type} {r : Except (Int × Int) α} {v : α} {e k : Nat} (h : Two r v e k) (f : α → β) : Two (r.map f) (f v) e k := by
  refine ⟨fun h1 => by rw [h.y h1]; rfl, fun h1 => ?_⟩
  obtain ⟨p, e, hr, hp⟩ := h.n h1
  exact ⟨p, e, by rw [hr]; rfl, hp⟩
def ptB (le : Bool) (q : Pt) : List Int := P64 [] q.f0 le ++ P64 [] q.f1 le
theorem ptB_eq (le : Bool) (q : Pt) : P64 (P64 [] q.f0 le) q.f1 le = ptB le q := P64_app _ _ _
theorem ptB_len (le : Bool) (q : Pt) : (ptB le q).length = 16 := by rw [ptB, List.length_append, P64_len, P64_len]; rfl
theorem ptsB_nil (le : Bool) : ptsB le [] = [] := rfl
theorem ptsB_cons (le : Bool) (q : Pt) (l : List Pt) : ptsB le (q :: l) = ptB le q ++ ptsB le l := by unfold ptsB; rw [List.flatMap_cons, ptB_eq]
def Rg (q : Pt) : Prop := (0 ≤ q.f0 ∧ q.f0 < 18446744073709551616) ∧ 0 ≤ q.f1 ∧ q.f1 < 18446744073709551616
theorem St.pt {b : List Int} {a : Nat} {le : Bool} {q : Pt} (h : St b a (ptB le q)) (hr : Rg q) : numB b a 8 le = q.f0 ∧ numB b (a + 8) 8 le = q.f1 := by
  have h2 := St.app h
  rw [P64_len] at h2
  exact ⟨h2.1.w64 hr.1.1 hr.1.2, St.w64 (a := a + 8) h2.2 hr.2.1 hr.2.2⟩
theorem rg_nan : Rg nanP := by
  refine ⟨⟨?_, ?_⟩, ?_, ?_⟩ <;> (unfold nanP; dsimp only; omega)
theorem class_nanP : classOf nanP.f0 = 4 ∧ classOf nanP.f1 = 4 := ⟨class_nan, class_nan⟩
section
variable {b c : List Int} {k : Nat}
theorem clen (hc : c = b.take k) (hk : k ≤ b.length) : c.length = k := by rw [hc, List.length_take]; omega
theorem count2 (hc : c = b.take k) (hk : k ≤ b.length) {a n least : Nat} {le : Bool} (h : St b a (P32 (u32 n) le)) (hn : n < 4294967296) (ha : a ≤ k) :
    (k < a + 4 → countR c a le least = .error (a, 160)) ∧ (a + 4 ≤ k → k < a + 4 + n * least → countR c a le least = .error (a, 173)) ∧ (a + 4 + n * least ≤ k → countR c a le least = .ok n) := by
  have hl := clen hc hk
  have hu : u32 (n : Int) = n := by unfold u32; rw [IntKind.wrap_u32]; omega
  have hw : a + 4 ≤ k → numB c a 4 le % 4294967296 = n := fun hq => by
    rw [hu] at h
    have h9 : St c a (P32 (n : Int) le) := by rw [hc]; exact h.cut (by rw [P32_len]; exact hq)
    rw [h9.w32 (by omega) (by omega)]
    omega
  unfold countR
  rw [hl]
  refine ⟨fun h1 => if_pos h1, fun h1 h2 => ?_, fun h1 => ?_⟩
  · rw [if_neg (by omega), hw h1, Int.toNat_natCast, if_pos h2]
  · rw [if_neg (by omega), hw (by omega), Int.toNat_natCast, if_neg (by omega)]
theorem place2 (hc : c = b.take k) (hk : k ≤ b.length) {a : Nat} {le : Bool} {l : List Pt} (hl1 : l.length ≤ 1) (h : St b a (if l.length = 0 then ptsB le [nanP] else ptsB le l)) (hf : finL l = true) (hr : ∀ q ∈ l, Rg q) (ha : a ≤ k) : Two (placeR c a le) l (a + 16) k := by
  have hl := clen hc hk
  refine ⟨fun h1 => ?_, fun h1 => ?_⟩
  · unfold placeR
    rw [hl, if_neg (by omega), if_neg (by omega)]
    match l, hl1 with
    | [], _ =>
      rw [if_pos (by rfl), ptsB_cons, ptsB_nil, List.append_nil] at h
      have h9 : St c a (ptB le nanP) := by rw [hc]; exact h.cut (by rw [ptB_len]; exact h1)
      obtain ⟨e1, e2⟩ := h9.pt rg_nan
      rw [e1, e2, if_pos class_nanP]
    | [q], _ =>
      rw [if_neg (by simp), ptsB_cons, ptsB_nil, List.append_nil] at h
      have h9 : St c a (ptB le q) := by rw [hc]; exact h.cut (by rw [ptB_len]; exact h1)
      obtain ⟨e1, e2⟩ := h9.pt (hr q (List.mem_singleton_self _))
      obtain ⟨c1, c2⟩ := fin_pt hf (List.mem_singleton_self q)
      rw [e1, e2, if_neg (n4 c1), if_neg (nle3 c1), if_neg (nle3 c2)]
  · unfold placeR
    rw [hl]
    by_cases h2 : k < a + 8
    · exact ⟨a, 160, if_pos h2, .inl rfl, by omega, by omega⟩
    · exact ⟨_, 160, by rw [if_neg h2, if_pos (by omega)], .inl rfl, by omega, by omega⟩
theorem bad_none {a : Nat} {le : Bool} : ∀ (m i : Nat), (∀ j, i ≤ j → j < i + m → classOf (numB c (a + 16 * j) 8 le) ≤ 2 ∧ classOf (numB c (a + 16 * j + 8) 8 le) ≤ 2) → badFrom c a le m i = none := by
  intro m
  induction m with
  | zero => intro i _; rfl
  | succ m ih =>
    intro i h
    have := h i (Nat.le_refl _) (by omega)
    rw [badFrom, if_neg (nle3 this.1), if_neg (nle3 this.2)]
    exact ih (i + 1) (fun j h1 h2 => h j (by omega) (by omega))
theorem St.pts {a : Nat} {le : Bool} : ∀ {l : List Pt} (i : Nat) (hi : i < l.length), St b a (ptsB le l) → St b (a + 16 * i) (ptB le l[i]) := by
  intro l
  induction l generalizing a with
  | nil => intro i hi; cases hi
  | cons q l ih =>
    intro i hi h
    rw [ptsB_cons] at h
    have h2 := h.app
    rw [ptB_len] at h2
    match i with
    | 0 => exact h2.1
    | i + 1 =>
      have := ih (a := a + 16) i (by simpa using hi) h2.2
      rw [show a + 16 * (i + 1) = a + 16 + 16 * i from by omega]
      simpa using this
theorem points_of {a : Nat} {le : Bool} {l : List Pt} (h : St c a (ptsB le l)) (hf : finL l = true) (hr : ∀ q ∈ l, Rg q) : pointsR c a le l.length = .ok l := by
  have hp : ∀ i (hi : i < l.length), numB c (a + 16 * i) 8 le = l[i].f0 ∧ numB c (a + 16 * i + 8) 8 le = l[i].f1 := fun i hi => St.pt (h.pts i hi) (hr _ (List.getElem_mem hi))
  unfold pointsR
  rw [bad_none l.length 0 (fun j _ hj => by
    have hj' : j < l.length := by omega
    rw [(hp j hj').1, (hp j hj').2]
    exact fin_pt hf (List.getElem_mem hj'))]
  show Except.ok (ptsAt c a le l.length) = .ok l
  congr 1
  unfold ptsAt
  refine List.ext_getElem (by simp) fun i h1 h2 => ?_
  simp only [List.getElem_map, List.getElem_range, ptAt]
  rw [(hp i h2).1, (hp i h2).2]
theorem ringB_len (le : Bool) (r : List Pt) : (ringB le r).length = 4 + 16 * r.length := by rw [ringB, List.length_append, P32_len, ptsB_len]
theorem ring2 (hc : c = b.take k) (hk : k ≤ b.length) {a : Nat} {le : Bool} {r : List Pt} (h0 : r ≠ []) (hn : r.length < 4294967296) (h : St b a (ringB le r)) (hf : finL r = true) (hr : ∀ q ∈ r, Rg q) (ha : a ≤ k) : Two (ringR c a le) r (a + (4 + 16 * r.length)) k := by
  have hl := clen hc hk
  have hu : u32 (r.length : Int) = r.length := by unfold u32; rw [IntKind.wrap_u32]; omega
  have h1 := St.app h
  rw [hu, P32_len] at h1
  have hw : a + 4 ≤ k → numB c a 4 le % 4294967296 = (r.length : Int) := fun hq => by
    have h9 : St c a (P32 (r.length : Int) le) := by rw [hc]; exact h1.1.cut (by rw [P32_len]; exact hq)
    rw [h9.w32 (by omega) (by omega)]
    omega
  have hp : 0 < r.length := List.length_pos_iff.2 h0
  refine ⟨fun h2 => ?_, fun h2 => ?_⟩
  · unfold ringR
    rw [hl, if_neg (by omega), hw (by omega), if_neg (by omega), Int.toNat_natCast, if_neg (by omega)]
    exact points_of (by rw [hc]; exact h1.2.cut (by rw [ptsB_len]; omega)) hf hr
  · unfold ringR
    rw [hl]
    by_cases h3 : k < a + 4
    · exact ⟨a, 160, if_pos h3, .inl rfl, by omega, by omega⟩
    · exact ⟨a, 173, by rw [if_neg h3, hw (by omega), if_neg (by omega), Int.toNat_natCast, if_pos (by omega)], .inr rfl, by omega, by omega⟩
theorem ringsB_cons (le : Bool) (r : List Pt) (l : List (List Pt)) : ringsB le (r :: l) = ringB le r ++ ringsB le l := by unfold ringsB; rw [List.flatMap_cons]
theorem rings2 (hc : c = b.take k) (hk : k ≤ b.length) {le : Bool} : ∀ (l : List (List Pt)) (a : Nat), (∀ r ∈ l, r ≠ [] ∧ r.length < 4294967296 ∧ finL r = true ∧ ∀ q ∈ r, Rg q) → St b a (ringsB le l) → a ≤ k → Two (ringsR c le l.length a) (l, a + (ringsB le l).length) (a + (ringsB le l).length) k := by
  intro l
  induction l with
  | nil =>
    intro a _ _ ha
    exact ⟨fun _ => rfl, fun h => absurd h (by show ¬ k < a + 0; omega)⟩
  | cons r l ih =>
    intro a hr h ha
    rw [ringsB_cons] at h ⊢
    have h1 := h.app
    obtain ⟨h0, hn, hf, hg⟩ := hr r List.mem_cons_self
    have h2 := ring2 hc hk h0 hn h1.1 hf hg ha
    rw [List.length_cons, List.length_append, ringB_len]
    rw [ringB_len] at h1
    by_cases h3 : a + (4 + 16 * r.length) ≤ k
    · have h4 := ih (a + (4 + 16 * r.length)) (fun r' hr' => hr r' (List.mem_cons_of_mem _ hr')) h1.2 h3
      have e : ringsR c le (l.length + 1) a = (ringsR c le l.length (a + (4 + 16 * r.length))).map fun x => (r :: x.1, x.2) := by
        rw [ringsR, h2.y h3]
        rw [← Nat.add_assoc]
      rw [e, show a + (4 + 16 * r.length + (ringsB le l).length) = a + (4 + 16 * r.length) + (ringsB le l).length from by omega]
      exact h4.map (fun x => (r :: x.1, x.2))
    · refine ⟨fun h => by omega, fun _ => ?_⟩
      obtain ⟨p, e, he, hp⟩ := h2.n (by omega)
      exact ⟨p, e, by rw [ringsR, he], hp⟩
end
/-! ### trees -/
def ords (os : List Bool) : Nat → Nat → List Bool
  | _, 0 => []
  | n, m + 1 => ordAt os n :: ords os (n + 1) m
theorem ords_add (os : List Bool) (m m' : Nat) : ∀ n, ords os n (m + m') = ords os n m ++ ords os (n + m) m' := by
  induction m with
  | zero => intro n; simp [ords]
  | succ m ih =>
    intro n
    rw [show m + 1 + m' = (m + m') + 1 from by omega, ords, ords, ih, List.cons_append, show n + 1 + m = n + (m + 1) from by omega]
def HomeOk (o : Int) : Prop := o = 0 ∨ (4 ≤ o ∧ o ≤ 7)
theorem home_fits {k o : Int} (hk : 1 ≤ k ∧ k ≤ 7) (ho : HomeOk o) : decide (o = 0 ∨ o = 7 ∨ k = o - 3) = fitsB k o := by
  unfold fitsB
  unfold HomeOk at ho
  split
  · rename_i h
    rw [Bool.eq_iff_iff, decide_eq_true_iff, decide_eq_true_iff]
    omega
  · rename_i h
    rw [decide_eq_true_iff]
    omega
theorem head_of {c : List Int} {a : Nat} {le : Bool} {k : Int} (h : St c a (bitB le ++ P32 (u32 k) le)) (ha : a ≤ c.length) (hk : 1 ≤ k ∧ k ≤ 7) : headR c a = .ok (le, k) := by
  have hu : u32 k = k := by unfold u32; rw [IntKind.wrap_u32]; omega
  rw [hu] at h
  have hl := h.le ha
  rw [List.length_append, P32_len] at hl
  have h1 := h.app
  have hb : (bitB le).length = 1 := rfl
  rw [hb] at hl h1
  have e1 : numB c a 1 false = if le = true then 1 else 0 := by
    have h2 := h1.1
    unfold bitB at h2
    rw [h2.w8 (by cases le <;> decide) (by cases le <;> decide)]
  have e2 : decide (numB c a 1 false % 256 = 1) = le := by rw [e1]; cases le <;> decide
  have e3 : numB c (a + 1) 4 le = k := h1.2.w32 (by omega) (by omega)
  unfold headR
  rw [if_neg (by omega), if_neg (by rw [e1]; cases le <;> decide), if_neg (by omega), e2, e3, if_neg (by omega), show k % 4294967296 = k from by omega]
theorem head2 {b c : List Int} {k a : Nat} (hc : c = b.take k) (hk : k ≤ b.length) {le : Bool} {kd : Int} (h : St b a (bitB le ++ P32 (u32 kd) le)) (hkd : 1 ≤ kd ∧ kd ≤ 7) (ha : a ≤ k) : Two (headR c a) (le, kd) (a + 5) k := by
  have hl := clen hc hk
  have h5 : (bitB le ++ P32 (u32 kd) le).length = 5 := by rw [List.length_append, P32_len]; rfl
  refine ⟨fun h1 => head_of (by rw [hc]; exact h.cut (by rw [h5]; exact h1)) (by omega) hkd, fun h1 => ?_⟩
  unfold headR
  rw [hl]
  by_cases h2 : k < a + 1
  · exact ⟨a, 160, if_pos h2, .inl rfl, by omega, by omega⟩
  · have h3 : St c a (bitB le) := by rw [hc]; exact h.app.1.cut (by show a + 1 ≤ k; omega)
    have e1 : numB c a 1 false = if le = true then 1 else 0 := by
      unfold bitB at h3
      rw [h3.w8 (by cases le <;> decide) (by cases le <;> decide)]
    exact ⟨_, 160, by rw [if_neg h2, if_neg (by rw [e1]; cases le <;> decide), if_pos (by omega)], .inl rfl, by omega, by omega⟩
theorem geoB_head (os : List Bool) (g : Ge) (n : Nat) : ∃ X, geoB os g n = (bitB (ordAt os n) ++ P32 (u32 g.f0) (ordAt os n)) ++ X ∧ X = (if g.f0 = 1 then (if g.f1.length = 0 then ptsB (ordAt os n) [nanP] else ptsB (ordAt os n) g.f1)
       else if g.f0 = 2 then P32 (u32 g.f1.length) (ordAt os n) ++ ptsB (ordAt os n) g.f1
       else if g.f0 = 3 then P32 (u32 g.f2.length) (ordAt os n) ++ ringsB (ordAt os n) g.f2
       else P32 (u32 g.f3.length) (ordAt os n) ++ partsB os g.f3 (n + 1)) := ⟨_, by rw [geoB_eq, List.append_assoc], rfl⟩
theorem geoB_ge (os : List Bool) (g : Ge) (n : Nat) : 9 ≤ (geoB os g n).length ∧ (g.f0 = 1 → g.f1.length ≤ 1 → (geoB os g n).length = 21) := by
  rw [geoB_eq, List.length_append, List.length_append, P32_len, show (bitB (ordAt os n)).length = 1 from rfl]
  by_cases h1 : g.f0 = 1
  · rw [if_pos h1]
    by_cases h2 : g.f1.length = 0
    · rw [if_pos h2, ptsB_len]
      exact ⟨by simp, fun _ _ => by simp⟩
    · rw [if_neg h2, ptsB_len]
      exact ⟨by omega, fun _ _ => by omega⟩
  · rw [if_neg h1]
    refine ⟨?_, fun h => absurd h h1⟩
    split
    · rw [List.length_append, P32_len]; omega
    · split
      · rw [List.length_append, P32_len]; omega
      · rw [List.length_append, P32_len]; omega
theorem parts_ge (os : List Bool) (m : Nat) : ∀ (l : List Ge) (n : Nat), (∀ p ∈ l, ∀ n, m ≤ (geoB os p n).length) → l.length * m ≤ (partsB os l n).length := by
  intro l
  induction l with
  | nil => intro n _; simp
  | cons p l ih =>
    intro n h
    rw [partsB, List.length_append, List.length_cons, Nat.add_mul]
    have h1 := h p List.mem_cons_self n
    have h2 := ih (n + cntG p) (fun q hq => h q (List.mem_cons_of_mem _ hq))
    omega
theorem parts2 {b : List Int} {k : Nat} (os : List Bool) (f : Nat → Except (Int × Int) (Ge × Nat × List Bool)) : ∀ (l : List Ge) (n a : Nat),
    (∀ p ∈ l, ∀ n a, St b a (geoB os p n) → a ≤ k → Two (f a) (p, a + (geoB os p n).length, ords os n (cntG p)) (a + (geoB os p n).length) k) → St b a (partsB os l n) → a ≤ k →
    Two (partsR f l.length a) (l, a + (partsB os l n).length, ords os n (cntL l)) (a + (partsB os l n).length) k := by
  intro l
  induction l with
  | nil =>
    intro n a _ _ ha
    exact ⟨fun _ => by simp [partsR, partsB, cntL, ords], fun h => absurd h (by simp [partsB]; omega)⟩
  | cons p l ih =>
    intro n a hp h ha
    rw [partsB] at h ⊢
    have h1 := h.app
    have h2 := hp p List.mem_cons_self n a h1.1 ha
    rw [List.length_cons, List.length_append]
    by_cases h3 : a + (geoB os p n).length ≤ k
    · have h4 := ih (n + cntG p) (a + (geoB os p n).length) (fun q hq => hp q (List.mem_cons_of_mem _ hq)) h1.2 h3
      have e : partsR f (l.length + 1) a = (partsR f l.length (a + (geoB os p n).length)).map fun r => (p :: r.1, r.2.1, ords os n (cntG p) ++ r.2.2) := by
        rw [partsR, h2.y h3]
      rw [e, ← Nat.add_assoc, cntL, ords_add]
      exact h4.map (fun r => (p :: r.1, r.2.1, ords os n (cntG p) ++ r.2.2))
    · refine ⟨fun h => by omega, fun _ => ?_⟩
      obtain ⟨q, e, he, hq⟩ := h2.n (by omega)
      exact ⟨q, e, by rw [partsR, he], hq⟩
theorem ords_one (os : List Bool) (n : Nat) : ords os n 1 = [ordAt os n] := rfl
theorem ge_mk (g : Ge) : g = ⟨g.f0, g.f1, g.f2, g.f3⟩ := by cases g; rfl
theorem rings_ge (le : Bool) (l : List (List Pt)) (h : ∀ r ∈ l, r ≠ []) : l.length * 20 ≤ (ringsB le l).length := by
  induction l with
  | nil => simp
  | cons r l ih =>
    rw [ringsB_cons, List.length_append, ringB_len, List.length_cons]
    have h1 := ih (fun r hr => h r (List.mem_cons_of_mem _ hr))
    have h2 := List.length_pos_iff.2 (h r List.mem_cons_self)
    omega
theorem flat_le {α : Type} {r : List α} {l : List (List α)} (h : r ∈ l) : r.length ≤ l.flatten.length := by
  induction l with
  | nil => cases h
  | cons x l ih =>
    rw [List.flatten_cons, List.length_append]
    rcases List.mem_cons.1 h with rfl | h
    · omega
    · have := ih h
      omega
theorem count_then {b c : List Int} {k : Nat} (hc : c = b.take k) (hk : k ≤ b.length) {a n least e : Nat} {le : Bool} (h : St b a (P32 (u32 n) le)) (hn : n < 4294967296) (ha : a ≤ k) {α : Type} (F : Nat → Except (Int × Int) α) (v : α) (he : a + 4 + n * least ≤ e) (hF : a + 4 + n * least ≤ k → Two (F n) v e k) :
    Two (match countR c a le least with | .error x => .error x | .ok m => F m) v e k := by
  obtain ⟨c1, c2, c3⟩ := count2 hc hk (least := least) h hn ha
  by_cases h1 : k < a + 4
  · rw [c1 h1]
    exact ⟨fun h => by omega, fun _ => ⟨a, 160, rfl, .inl rfl, by omega, by omega⟩⟩
  by_cases h2 : k < a + 4 + n * least
  · rw [c2 (by omega) h2]
    exact ⟨fun h => by omega, fun _ => ⟨a, 173, rfl, .inr rfl, by omega, by omega⟩⟩
  rw [c3 (by omega)]
  exact hF (by omega)
theorem Two.to {α : Type} {r : Except (Int × Int) α} {v v' : α} {e e' k : Nat} (h : Two r v e k) (hv : v = v') (he : e = e') : Two r v' e' k := by
  subst hv he
  exact h
theorem geom2 {b c : List Int} {k : Nat} (hc : c = b.take k) (hk : k ≤ b.length) (os : List Bool) (deep : Int) (m : Nat) : ∀ (g : Ge) (lvl o : Int) (n a fuel : Nat), g.bulk ≤ m → g.bulk < 4294967296 → AllG g lvl o → (∀ x ∈ nodes g lvl o, x.f1 ≤ deep) →
    deep + 2 ≤ fuel + lvl → HomeOk o → St b a (geoB os g n) → a ≤ k → Two (geomR c deep fuel a lvl o) (g, a + (geoB os g n).length, ords os n (cntG g)) (a + (geoB os g n).length) k := by
  induction m with
  | zero => intro g _ _ _ _ _ h; have := g.bulk_eq; omega
  | succ m ih =>
    intro g lvl o n a fuel hm hbk hG hd hfu ho h ha
    have hlv : lvl ≤ deep := hd _ (by rw [nodes_eq]; exact List.mem_cons_self ..)
    obtain ⟨fu, rfl⟩ : ∃ fu, fuel = fu + 1 := ⟨fuel - 1, by omega⟩
    obtain ⟨hkd, hfit, s1, s2, s3, s4, s5⟩ := shaped_all hG.here.s
    have hfin : finL (own g) = true := hG.here.f
    have hrg : ∀ q ∈ own g, Rg q := hG.here.r
    rw [finL_own, Bool.and_eq_true, List.all_eq_true] at hfin
    obtain ⟨X, hX, eX⟩ := geoB_head os g n
    have hge := geoB_ge os g n
    obtain ⟨le, hle⟩ : ∃ le, le = ordAt os n := ⟨_, rfl⟩
    have hon : ords os n 1 = [le] := by rw [ords_one, hle]
    have hor : ∀ j, ords os n (1 + j) = le :: ords os (n + 1) j := fun j => by rw [ords_add, hon]; rfl
    rw [← hle] at hX eX
    rw [hX] at h hge ⊢
    have h1 := h.app
    have h5 : (bitB le ++ P32 (u32 g.f0) le).length = 5 := by rw [List.length_append, P32_len]; rfl
    rw [h5] at h1
    rw [List.length_append, h5] at hge ⊢
    have hh := head2 hc hk h1.1 hkd ha
    rw [geomR_eq]
    by_cases h6 : a + 5 ≤ k
    rotate_left
    · refine ⟨fun h => by omega, fun _ => ?_⟩
      obtain ⟨p, e, he, hp⟩ := hh.n (by omega)
      exact ⟨p, e, by rw [he], hp⟩
    rw [hh.y h6]
    dsimp only
    rw [home_fits hkd ho, hfit, if_neg (by decide), if_neg (by omega), show a + 1 + 4 = a + 5 from rfl]
    unfold bodyR
    have hbe := g.bulk_eq
    have hcn := cntG_eq g
    by_cases k1 : g.f0 = 1
    · rw [if_pos k1]
      rw [if_pos k1] at eX
      have e16 : X.length = 16 := by have := hge.2 k1 (s5 k1); omega
      have h1b := h1.2
      rw [eX] at h1b
      refine ((place2 hc hk (s5 k1) h1b hfin.1 (fun q hq => hrg q (by unfold own; exact List.mem_append_left _ hq)) h6).map fun l => ((⟨g.f0, l, [], []⟩ : Ge), a + 5 + 16, [le])).to ?_ (by omega)
      rw [hcn, if_pos (.inl k1), hon, e16, show (⟨g.f0, g.f1, [], []⟩ : Ge) = g from by rw [ge_mk g, ← s2 (by omega), ← s3 (by omega)]]
    rw [if_neg k1] at eX ⊢
    by_cases k2 : g.f0 = 2
    · rw [if_pos k2] at eX ⊢
      have h1b := h1.2
      rw [eX] at h1b ⊢
      have h7 := h1b.app
      rw [P32_len] at h7
      rw [List.length_append, P32_len, ptsB_len]
      refine count_then hc hk h7.1 (by omega) h6 _ _ (by omega) (fun h8 => ⟨fun _ => ?_, fun h => by omega⟩)
      rw [points_of (by rw [hc]; exact h7.2.cut (by rw [ptsB_len]; omega)) hfin.1 (fun q hq => hrg q (by unfold own; exact List.mem_append_left _ hq))]
      rw [hcn, if_pos (.inr (.inl k2)), hon, show a + (5 + (4 + 16 * g.f1.length)) = a + 5 + 4 + 16 * g.f1.length from by omega]
      show Except.ok ((⟨g.f0, g.f1, [], []⟩ : Ge), a + 5 + 4 + 16 * g.f1.length, [le]) = _
      rw [show (⟨g.f0, g.f1, [], []⟩ : Ge) = g from by rw [ge_mk g, ← s2 (by omega), ← s3 (by omega)]]
    rw [if_neg k2] at eX ⊢
    by_cases k3 : g.f0 = 3
    · rw [if_pos k3] at eX ⊢
      have h1b := h1.2
      rw [eX] at h1b ⊢
      have h7 := h1b.app
      rw [P32_len] at h7
      rw [List.length_append, P32_len]
      have h20 := rings_ge le g.f2 s4
      refine count_then hc hk h7.1 (by omega) h6 _ _ (by omega) (fun h8 => ?_)
      refine ((rings2 hc hk g.f2 (a + 5 + 4) (fun r hr => ⟨s4 r hr, ?_, hfin.2 r hr, fun q hq => hrg q ?_⟩) h7.2 (by omega)).map fun r => ((⟨g.f0, [], r.1, []⟩ : Ge), r.2, [le])).to ?_ (by omega)
      · have := flat_le hr
        omega
      · unfold own
        exact List.mem_append_right _ (List.mem_flatten.2 ⟨r, hr, hq⟩)
      · dsimp only
        rw [hcn, if_pos (.inr (.inr k3)), hon, show (⟨g.f0, [], g.f2, []⟩ : Ge) = g from by rw [ge_mk g, ← s1 (by omega), ← s3 (by omega)]]
        congr 2
        omega
    rw [if_neg k3] at eX ⊢
    have h1b := h1.2
    rw [eX] at h1b ⊢
    have h7 := h1b.app
    rw [P32_len] at h7
    rw [List.length_append, P32_len]
    have hl3 := bulks_len g.f3
    have hg9 : g.f3.length * (if g.f0 = 4 then 21 else 9) ≤ (partsB os g.f3 (n + 1)).length := by
      refine parts_ge os _ g.f3 (n + 1) (fun p hp n => ?_)
      have h9 := geoB_ge os p n
      have hpS := shaped_all (hG.part hp).here.s
      split
      · rename_i k4
        have hf : fitsB p.f0 g.f0 = true := hpS.2.1
        unfold fitsB at hf
        rw [if_pos (.inl k4), decide_eq_true_iff] at hf
        have hp1 : p.f0 = 1 := by omega
        have := h9.2 hp1 (hpS.2.2.2.2.2.2 hp1)
        omega
      · exact h9.1
    refine count_then hc hk h7.1 (by omega) h6 _ _ (by omega) (fun h8 => ?_)
    refine ((parts2 os (fun q => geomR c deep fu q (lvl + 1) g.f0) g.f3 (n + 1) (a + 5 + 4) (fun p hp n a hst hak => ?_) h7.2 (by omega)).map fun r => ((⟨g.f0, [], [], r.1⟩ : Ge), r.2.1, le :: r.2.2)).to ?_ (by omega)
    · have hpb := bulks_mem hp
      exact ih p (lvl + 1) g.f0 n a fu (by omega) (by omega) (hG.part hp) (fun x hx => hd x (part_nodes lvl o hp hx)) (by omega) (.inr (by omega)) hst hak
    · dsimp only
      rw [hcn, if_neg (by omega), hor, show (⟨g.f0, [], [], g.f3⟩ : Ge) = g from by rw [ge_mk g, ← s1 (by omega), ← s2 (by omega)]]
      congr 2
      omega
/-! ### too deep -/
end Go.Proofs.YtiiolhnpnlmkjaaDoor.Tree
