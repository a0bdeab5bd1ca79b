/- api.Code, api.Place and the laws' is by contracts, over errors.As. No conditions but those told of the cells. -/
import Derived.Test.YtmcbniobbbjdjaaDoorProg
import Derived.WalkKit
import Derived.LaidEql
import Derived.Stop.Asserts
import Derived.RowKitTokens
import Derived.BigQuiet
import Derived.Test.YtmcbniobbbjdjaaDoorTRCheck
namespace Go.Proofs.YtmcbniobbbjdjaaDoor
open Go.RowKit Go.Extern.Stop Go.Stop Go.Extern

/-- errors.As(nil, target). -/
theorem as_nil (t : Value) (w : World) :
    Calls Tryd.prog 43 #[.nilIface, t] w fun e w' => e = .returned (.bool false) ∧ w' = w := by
  go_enter Tryd.func43, Tryd.ntmps43
  go_wp2
  go_ret
  exact ⟨rfl, rfl⟩

/-! ### closed facts: 89: *api.Fault, 90: **api.Fault, 49: api.Errno, 88: *api.Errno, 33: error, 116: reflectlite's rtype -/
theorem As_.valueOf79 (t : Addr) (w : World) : (ReflectliteValue.unpack (.iface 90 (.pointer (some t)))).run Tryd.prog w
    = .ok (.agg #[.pointer (some ⟨1, 90, none⟩), .pointer (some ⟨w.heap.size, 0, none⟩), .int .u64 150]) (w.alloc (.cells #[.pointer (some t)] 90)) := by kernel_rfl
theorem As_.type79 (a : Addr) (w : World) : (ReflectliteValue.methodAny (ReflectliteValue.valueError "reflectlite.Value.Type" 0) (fun t _ _ _ => ReflectliteType.toType t) #[.agg #[.pointer (some ⟨1, 90, none⟩), .pointer (some a), .int .u64 150]]).run Tryd.prog w
    = .ok (.iface 116 (.agg #[.pointer (some ⟨1, 90, none⟩)])) w := by kernel_rfl
theorem As_.methodKind (h : Value) (w : World) : (Go.method 261 116 (.agg #[h]) "Kind").run Tryd.prog w = .ok (76, h) w := by kernel_rfl
theorem As_.kind79 (w : World) : ((ReflectliteType.abiMethod fun t => (fun a : Nat => Value.int IntKind.u8 (a : Int)) <$> Rtype.kind t) #[.pointer (some ⟨1, 90, none⟩)]).run Tryd.prog w = .ok (.int .u8 22) w := by kernel_rfl
theorem As_.kind78 (w : World) : ((ReflectliteType.abiMethod fun t => (fun a : Nat => Value.int IntKind.u8 (a : Int)) <$> Rtype.kind t) #[.pointer (some ⟨1, 89, none⟩)]).run Tryd.prog w = .ok (.int .u8 22) w := by kernel_rfl

/-! ### THE ENTRIES THAT READ OR WRITE MEMORY: laws with a premise on the cell (after Derived/Lib/ReflectliteSlice.lean's manner: each unfolding a lemma of its own, by rfl) -/
theorem rlm (z : Sem Value) (f : TypeId → Addr → Nat → Nat → Sem Value) (v : Value) :
    ReflectliteValue.method z f #[v] = (do match ← ReflectliteValue.parts v with | none => z | some (t, a, fl) => f t a fl (fl % 32)) := rfl
theorem As_.parts79 (a : Addr) (w : World) : (ReflectliteValue.parts (.agg #[.pointer (some ⟨1, 90, none⟩), .pointer (some a), .int .u64 150])).run Tryd.prog w = .ok (some (90, a, 150)) w := by kernel_rfl
/-- (Value).IsNil at the Value of a **p.E that is not nil. -/
theorem As_.isNil79 (a p : Addr) (W : World) (ha : W.cell? a = some (.pointer (some p))) :
    (ReflectliteValue.method (ReflectliteValue.valueError "reflectlite.Value.IsNil" 0) ReflectliteValue.isNil #[.agg #[.pointer (some ⟨1, 90, none⟩), .pointer (some a), .int .u64 150]]).run Tryd.prog W = .ok (.bool false) W := by
  rw [rlm]
  simp only [Sem.run_bind, As_.parts79, Result.andThen]
  simp [ReflectliteValue.isNil, loadVar, isAgg, underlying, Tryd.underlying90, ha, Result.andThen]

theorem As_.methodElem (h : Value) (w : World) : (Go.method 261 116 (.agg #[h]) "Elem").run Tryd.prog w = .ok (88, .agg #[h]) w := by kernel_rfl
theorem As_.methodImplements (h : Value) (w : World) : (Go.method 261 116 (.agg #[h]) "Implements").run Tryd.prog w = .ok (89, .agg #[h]) w := by kernel_rfl
theorem As_.methodAssignableTo (h : Value) (w : World) : (Go.method 261 116 (.agg #[h]) "AssignableTo").run Tryd.prog w = .ok (86, .agg #[h]) w := by kernel_rfl
theorem As_.elem79 (w : World) : (ReflectliteType.method ReflectliteType.elem #[.agg #[.pointer (some ⟨1, 90, none⟩)]]).run Tryd.prog w = .ok (.iface 116 (.agg #[.pointer (some ⟨1, 89, none⟩)])) w := by kernel_rfl
theorem As_.implements78 (w : World) : (ReflectliteType.relation "Implements" ReflectliteType.implements_ #[.agg #[.pointer (some ⟨1, 89, none⟩)], .iface 116 (.agg #[.pointer (some ⟨1, 33, none⟩)])]).run Tryd.prog w = .ok (.bool true) w := by kernel_rfl
theorem As_.typeOf78 (v : Value) (w : World) : (ReflectliteType.typeOf #[.iface 89 v]).run Tryd.prog w = .ok (.iface 116 (.agg #[.pointer (some ⟨1, 89, none⟩)])) w := by kernel_rfl
theorem As_.assignable78 (w : World) : (ReflectliteType.relation "AssignableTo" ReflectliteType.assignableTo #[.agg #[.pointer (some ⟨1, 89, none⟩)], .iface 116 (.agg #[.pointer (some ⟨1, 89, none⟩)])]).run Tryd.prog w = .ok (.bool true) w := by kernel_rfl
theorem As_.valueOf78 (e : Addr) (w : World) : (ReflectliteValue.unpack (.iface 89 (.pointer (some e)))).run Tryd.prog w
    = .ok (.agg #[.pointer (some ⟨1, 89, none⟩), .pointer (some ⟨w.heap.size, 0, none⟩), .int .u64 150]) (w.alloc (.cells #[.pointer (some e)] 89)) := by kernel_rfl

theorem As_.elemOf79 (w : World) : (Rtype.elem? 90).run Tryd.prog w = .ok (some 89) w := by kernel_rfl
theorem As_.mk78 (p : Addr) (w : World) : (ReflectliteValue.mk 89 p ReflectliteValue.flagAddr).run Tryd.prog w = .ok (.agg #[.pointer (some ⟨1, 89, none⟩), .pointer (some p), .int .u64 406]) w := by kernel_rfl
/-- (Value).Elem at the Value of a **p.E that is not nil: the Value of the *p.E variable that it points to, addressable. -/
theorem As_.elemV79 (a p : Addr) (W : World) (ha : W.cell? a = some (.pointer (some p))) :
    (ReflectliteValue.method (ReflectliteValue.valueError "reflectlite.Value.Elem" 0) ReflectliteValue.elem #[.agg #[.pointer (some ⟨1, 90, none⟩), .pointer (some a), .int .u64 150]]).run Tryd.prog W
      = .ok (.agg #[.pointer (some ⟨1, 89, none⟩), .pointer (some p), .int .u64 406]) W := by
  rw [rlm]
  simp only [Sem.run_bind, As_.parts79, Result.andThen]
  simp [ReflectliteValue.elem, loadVar, isAgg, underlying, Tryd.underlying90, ha, Result.andThen, As_.elemOf79, As_.mk78]
theorem rls (v x : Value) : ReflectliteValue.set #[v, x] = (do
    let (some (dst, a, fl), some (src, b, _)) := (← ReflectliteValue.parts v, ← ReflectliteValue.parts x)
      | unsupported (.noEntry "extern/(internal/reflectlite.Value).Set.zeroValue")
    if fl / ReflectliteValue.flagAddr % 2 == 0 then unsupported (.noEntry "extern/(internal/reflectlite.Value).Set.unaddressable")
    let val ← loadVar src b
    if ← Rtype.directlyAssignable dst src then storeVar dst a val
    else if ← Rtype.implements dst src then
      if (← Rtype.kind src) == 20 then
        match val with
        | .nilIface => unsupported (.noEntry "extern/reflectlite: a nil value of one interface type handed on as a value of another")
        | _ => storeVar dst a val
      else storeVar dst a (.iface src val)
    else panicString ("reflectlite.Set: value of type " ++ (← Rtype.spelt src) ++ " is not assignable to type " ++ (← Rtype.spelt dst))
    pure (.tuple #[])) := rfl
theorem As_.parts78a (a : Addr) (w : World) : (ReflectliteValue.parts (.agg #[.pointer (some ⟨1, 89, none⟩), .pointer (some a), .int .u64 406])).run Tryd.prog w = .ok (some (89, a, 406)) w := by kernel_rfl
theorem As_.parts78 (a : Addr) (w : World) : (ReflectliteValue.parts (.agg #[.pointer (some ⟨1, 89, none⟩), .pointer (some a), .int .u64 150])).run Tryd.prog w = .ok (some (89, a, 150)) w := by kernel_rfl
theorem As_.direct78 (w : World) : (Rtype.directlyAssignable 89 89).run Tryd.prog w = .ok true w := by kernel_rfl
theorem As_.size78 (w : World) : (sizeOf 89).run Tryd.prog w = .ok 1 w := by kernel_rfl
/-- (Value).Set: the *p.E variable at 'ta' gets what the Value's own variable 'b' holds. -/
theorem As_.set78 (ta b e : Addr) (old : Value) (W : World) (hb : W.cell? b = some (.pointer (some e))) (ht : W.cell? ta = some old) (hf : W.frozen? ta = false) :
    (ReflectliteValue.set #[.agg #[.pointer (some ⟨1, 89, none⟩), .pointer (some ta), .int .u64 406], .agg #[.pointer (some ⟨1, 89, none⟩), .pointer (some b), .int .u64 150]]).run Tryd.prog W
      = .ok (.tuple #[]) (W.setCell ta (.pointer (some e))) := by
  rw [rls]
  simp only [Sem.run_bind, As_.parts78a, As_.parts78, Result.andThen]
  simp [ReflectliteValue.flagAddr, loadVar, isAgg, underlying, Tryd.underlying89, hb, Result.andThen, As_.direct78, storeVar, Value.cells, storeCells, Addr.add]
  rw [run_store Tryd.prog W ta _ _ (by rfl)]
  simp [ht, hf]

set_option maxHeartbeats 4000000 in
theorem as_hit (e t : Addr) (old : Value) (w : World) (hg : w.cell? ⟨0, 0, none⟩ = some (.iface 116 (.agg #[.pointer (some ⟨1, 33, none⟩)]))) (ht0 : w.cell? t = some old) (hf0 : w.frozen? t = false) :
    Calls Tryd.prog 43 #[.iface 89 (.pointer (some e)), .iface 90 (.pointer (some t))] w fun ev w' => ev = .returned (.bool true) ∧ w' = ((((w.alloc (.cells #[.pointer (some t)] 90)).alloc (.cells #[.pointer (some ⟨1, 90, none⟩), .pointer (some ⟨w.heap.size, 0, none⟩), .int .u64 150] 104)).alloc (.cells #[.pointer (some ⟨1, 90, none⟩), .pointer (some ⟨w.heap.size, 0, none⟩), .int .u64 150] 104)).alloc (.cells #[.pointer (some e)] 89)).setCell t (.pointer (some e)) := by
  have h6 := @run_callFunc_extern Tryd.prog 53 _ (fun args => ReflectliteValue.unpack (args.getD 0 (.tuple #[]))) Tryd.func53 (by kernel_rfl) (by kernel_rfl) (by kernel_rfl) (by kernel_rfl)
  have h7 := @run_callFunc_extern Tryd.prog 54 _ (ReflectliteValue.methodAny (ReflectliteValue.valueError "reflectlite.Value.Type" 0) (fun t _ _ _ => ReflectliteType.toType t)) Tryd.func54 (by kernel_rfl) (by kernel_rfl) (by kernel_rfl) (by kernel_rfl)
  have h8 := @run_callFunc_extern Tryd.prog 55 _ (ReflectliteValue.method (ReflectliteValue.valueError "reflectlite.Value.IsNil" 0) ReflectliteValue.isNil) Tryd.func55 (by kernel_rfl) (by kernel_rfl) (by kernel_rfl) (by kernel_rfl)
  have h27 := @run_callFunc_extern Tryd.prog 76 _ (ReflectliteType.abiMethod fun t => do pure (.int .u8 (← Rtype.kind t))) Tryd.func76 (by kernel_rfl) (by kernel_rfl) (by kernel_rfl) (by kernel_rfl)
  have h37 := @run_callFunc_extern Tryd.prog 88 _ (ReflectliteType.method ReflectliteType.elem) Tryd.func88 (by kernel_rfl) (by kernel_rfl) (by kernel_rfl) (by kernel_rfl)
  have h38 := @run_callFunc_extern Tryd.prog 89 _ (ReflectliteType.relation "Implements" ReflectliteType.implements_) Tryd.func89 (by kernel_rfl) (by kernel_rfl) (by kernel_rfl) (by kernel_rfl)
  have h10 := @run_callFunc_extern Tryd.prog 58 _ ReflectliteType.typeOf Tryd.func58 (by kernel_rfl) (by kernel_rfl) (by kernel_rfl) (by kernel_rfl)
  have h35 := @run_callFunc_extern Tryd.prog 86 _ (ReflectliteType.relation "AssignableTo" ReflectliteType.assignableTo) Tryd.func86 (by kernel_rfl) (by kernel_rfl) (by kernel_rfl) (by kernel_rfl)
  have h11 := @run_callFunc_extern Tryd.prog 59 _ (ReflectliteValue.method (ReflectliteValue.valueError "reflectlite.Value.Elem" 0) ReflectliteValue.elem) Tryd.func59 (by kernel_rfl) (by kernel_rfl) (by kernel_rfl) (by kernel_rfl)
  have h12 := @run_callFunc_extern Tryd.prog 60 _ ReflectliteValue.set Tryd.func60 (by kernel_rfl) (by kernel_rfl) (by kernel_rfl) (by kernel_rfl)
  have tO := As_.typeOf78
  have mA := As_.methodAssignableTo
  have a25 := As_.assignable78
  have v25 := As_.valueOf78
  have f6 := As_.valueOf79
  have f7 := As_.type79
  have mK := As_.methodKind
  have mE := As_.methodElem
  have mI := As_.methodImplements
  have k27 := As_.kind79
  have k25 := As_.kind78
  have e27 := As_.elem79
  have i25 := As_.implements78
  have n8 := As_.isNil79 ⟨w.heap.size, 0, none⟩ t ((w.alloc (.cells #[.pointer (some t)] 90)).alloc (.cells #[.pointer (some ⟨1, 90, none⟩), .pointer (some ⟨w.heap.size, 0, none⟩), .int .u64 150] 104)) (by simp)
  have hlt : 0 < w.heap.size := by
    rcases Nat.eq_zero_or_pos w.heap.size with h0 | h
    · simp [World.cell?, h0] at hg
    · exact h
  have hg2 : ((w.alloc (.cells #[.pointer (some t)] 90)).alloc (.cells #[.pointer (some ⟨1, 90, none⟩), .pointer (some ⟨w.heap.size, 0, none⟩), .int .u64 150] 104)).cell? ⟨0, 0, none⟩ = some (.iface 116 (.agg #[.pointer (some ⟨1, 33, none⟩)])) := by
    rw [World.cell?_alloc_lt _ _ ⟨0, 0, none⟩ (by simp), World.cell?_alloc_lt _ _ ⟨0, 0, none⟩ hlt]; exact hg
  have htl : t.block < w.heap.size := by
    rcases Nat.lt_or_ge t.block w.heap.size with h | h
    · exact h
    · simp [World.cell?, Array.getElem?_eq_none h] at ht0
  have el := As_.elemV79 ⟨w.heap.size, 0, none⟩ t (((w.alloc (.cells #[.pointer (some t)] 90)).alloc (.cells #[.pointer (some ⟨1, 90, none⟩), .pointer (some ⟨w.heap.size, 0, none⟩), .int .u64 150] 104)).alloc (.cells #[.pointer (some ⟨1, 90, none⟩), .pointer (some ⟨w.heap.size, 0, none⟩), .int .u64 150] 104)) (by rw [World.cell?_alloc_lt _ _ ⟨w.heap.size, 0, none⟩ (by simp; omega)]; simp)
  have st := As_.set78 t ⟨w.heap.size + 1 + 1 + 1, 0, none⟩ e old ((((w.alloc (.cells #[.pointer (some t)] 90)).alloc (.cells #[.pointer (some ⟨1, 90, none⟩), .pointer (some ⟨w.heap.size, 0, none⟩), .int .u64 150] 104)).alloc (.cells #[.pointer (some ⟨1, 90, none⟩), .pointer (some ⟨w.heap.size, 0, none⟩), .int .u64 150] 104)).alloc (.cells #[.pointer (some e)] 89))
    (by rw [World.cell?_alloc_at _ _ _ _ (by simp)]; rfl)
    (by rw [World.cell?_alloc_lt _ _ t (by simp; omega), World.cell?_alloc_lt _ _ t (by simp; omega), World.cell?_alloc_lt _ _ t (by simp; omega), World.cell?_alloc_lt _ _ t htl]; exact ht0)
    (by rw [World.frozen?_alloc_old _ _ t (by simp; omega), World.frozen?_alloc_old _ _ t (by simp; omega), World.frozen?_alloc_old _ _ t (by simp; omega), World.frozen?_alloc_old _ _ t (Nat.ne_of_lt htl)]; exact hf0)
  go_enter Tryd.func43, Tryd.ntmps43
  go_wp2
  refine wp_loop_rounds 1 ?_
  rw [rounds_succ]
  go_wp2
  go_ret
  exact ⟨rfl, rfl⟩

/-! ### the target *api.Errno -/
theorem As_.valueOf77 (t : Addr) (w : World) : (ReflectliteValue.unpack (.iface 88 (.pointer (some t)))).run Tryd.prog w
    = .ok (.agg #[.pointer (some ⟨1, 88, none⟩), .pointer (some ⟨w.heap.size, 0, none⟩), .int .u64 150]) (w.alloc (.cells #[.pointer (some t)] 88)) := by kernel_rfl
theorem As_.type77 (a : Addr) (w : World) : (ReflectliteValue.methodAny (ReflectliteValue.valueError "reflectlite.Value.Type" 0) (fun t _ _ _ => ReflectliteType.toType t) #[.agg #[.pointer (some ⟨1, 88, none⟩), .pointer (some a), .int .u64 150]]).run Tryd.prog w
    = .ok (.iface 116 (.agg #[.pointer (some ⟨1, 88, none⟩)])) w := by kernel_rfl
theorem As_.kind77 (w : World) : ((ReflectliteType.abiMethod fun t => (fun a : Nat => Value.int IntKind.u8 (a : Int)) <$> Rtype.kind t) #[.pointer (some ⟨1, 88, none⟩)]).run Tryd.prog w = .ok (.int .u8 22) w := by kernel_rfl
theorem As_.kind65 (w : World) : ((ReflectliteType.abiMethod fun t => (fun a : Nat => Value.int IntKind.u8 (a : Int)) <$> Rtype.kind t) #[.pointer (some ⟨1, 49, none⟩)]).run Tryd.prog w = .ok (.int .u8 2) w := by kernel_rfl
theorem As_.parts77 (a : Addr) (w : World) : (ReflectliteValue.parts (.agg #[.pointer (some ⟨1, 88, none⟩), .pointer (some a), .int .u64 150])).run Tryd.prog w = .ok (some (88, a, 150)) w := by kernel_rfl
theorem As_.isNil77 (a p : Addr) (W : World) (ha : W.cell? a = some (.pointer (some p))) :
    (ReflectliteValue.method (ReflectliteValue.valueError "reflectlite.Value.IsNil" 0) ReflectliteValue.isNil #[.agg #[.pointer (some ⟨1, 88, none⟩), .pointer (some a), .int .u64 150]]).run Tryd.prog W = .ok (.bool false) W := by
  rw [rlm]
  simp only [Sem.run_bind, As_.parts77, Result.andThen]
  simp [ReflectliteValue.isNil, loadVar, isAgg, underlying, Tryd.underlying88, ha, Result.andThen]
theorem As_.elem77 (w : World) : (ReflectliteType.method ReflectliteType.elem #[.agg #[.pointer (some ⟨1, 88, none⟩)]]).run Tryd.prog w = .ok (.iface 116 (.agg #[.pointer (some ⟨1, 49, none⟩)])) w := by kernel_rfl
theorem As_.implements65 (w : World) : (ReflectliteType.relation "Implements" ReflectliteType.implements_ #[.agg #[.pointer (some ⟨1, 49, none⟩)], .iface 116 (.agg #[.pointer (some ⟨1, 33, none⟩)])]).run Tryd.prog w = .ok (.bool true) w := by kernel_rfl
theorem As_.typeOf65 (v : Value) (w : World) : (ReflectliteType.typeOf #[.iface 49 v]).run Tryd.prog w = .ok (.iface 116 (.agg #[.pointer (some ⟨1, 49, none⟩)])) w := by kernel_rfl
theorem As_.assignable65 (w : World) : (ReflectliteType.relation "AssignableTo" ReflectliteType.assignableTo #[.agg #[.pointer (some ⟨1, 49, none⟩)], .iface 116 (.agg #[.pointer (some ⟨1, 49, none⟩)])]).run Tryd.prog w = .ok (.bool true) w := by kernel_rfl
theorem As_.assignable78no (w : World) : (ReflectliteType.relation "AssignableTo" ReflectliteType.assignableTo #[.agg #[.pointer (some ⟨1, 89, none⟩)], .iface 116 (.agg #[.pointer (some ⟨1, 49, none⟩)])]).run Tryd.prog w = .ok (.bool false) w := by kernel_rfl
theorem As_.valueOf65 (c : Int) (w : World) : (ReflectliteValue.unpack (.iface 49 (.int .i64 c))).run Tryd.prog w
    = .ok (.agg #[.pointer (some ⟨1, 49, none⟩), .pointer (some ⟨w.heap.size, 0, none⟩), .int .u64 130]) (w.alloc (.cells #[.int .i64 c] 49)) := by kernel_rfl
theorem As_.elemOf77 (w : World) : (Rtype.elem? 88).run Tryd.prog w = .ok (some 49) w := by kernel_rfl
theorem As_.mk65 (p : Addr) (w : World) : (ReflectliteValue.mk 49 p ReflectliteValue.flagAddr).run Tryd.prog w = .ok (.agg #[.pointer (some ⟨1, 49, none⟩), .pointer (some p), .int .u64 386]) w := by kernel_rfl
theorem As_.elemV77 (a p : Addr) (W : World) (ha : W.cell? a = some (.pointer (some p))) :
    (ReflectliteValue.method (ReflectliteValue.valueError "reflectlite.Value.Elem" 0) ReflectliteValue.elem #[.agg #[.pointer (some ⟨1, 88, none⟩), .pointer (some a), .int .u64 150]]).run Tryd.prog W
      = .ok (.agg #[.pointer (some ⟨1, 49, none⟩), .pointer (some p), .int .u64 386]) W := by
  rw [rlm]
  simp only [Sem.run_bind, As_.parts77, Result.andThen]
  simp [ReflectliteValue.elem, loadVar, isAgg, underlying, Tryd.underlying88, ha, Result.andThen, As_.elemOf77, As_.mk65]
theorem As_.parts65a (a : Addr) (w : World) : (ReflectliteValue.parts (.agg #[.pointer (some ⟨1, 49, none⟩), .pointer (some a), .int .u64 386])).run Tryd.prog w = .ok (some (49, a, 386)) w := by kernel_rfl
theorem As_.parts65 (a : Addr) (w : World) : (ReflectliteValue.parts (.agg #[.pointer (some ⟨1, 49, none⟩), .pointer (some a), .int .u64 130])).run Tryd.prog w = .ok (some (49, a, 130)) w := by kernel_rfl
theorem As_.direct65 (w : World) : (Rtype.directlyAssignable 49 49).run Tryd.prog w = .ok true w := by kernel_rfl
theorem As_.size65 (w : World) : (sizeOf 49).run Tryd.prog w = .ok 1 w := by kernel_rfl
theorem As_.set65 (ta b : Addr) (c : Int) (old : Value) (W : World) (hb : W.cell? b = some (.int .i64 c)) (ht : W.cell? ta = some old) (hf : W.frozen? ta = false) :
    (ReflectliteValue.set #[.agg #[.pointer (some ⟨1, 49, none⟩), .pointer (some ta), .int .u64 386], .agg #[.pointer (some ⟨1, 49, none⟩), .pointer (some b), .int .u64 130]]).run Tryd.prog W
      = .ok (.tuple #[]) (W.setCell ta (.int .i64 c)) := by
  rw [rls]
  simp only [Sem.run_bind, As_.parts65a, As_.parts65, Result.andThen]
  simp [ReflectliteValue.flagAddr, loadVar, isAgg, underlying, Tryd.underlying49, hb, Result.andThen, As_.direct65, storeVar, Value.cells, storeCells, Addr.add]
  rw [run_store Tryd.prog W ta _ _ (by rfl)]
  simp [ht, hf]
theorem As_.methodUnwrap (h : Value) (w : World) : (Go.method 261 89 h "Unwrap").run Tryd.prog w = .ok (81, h) w := by kernel_rfl
end Go.Proofs.YtmcbniobbbjdjaaDoor
namespace Go.Proofs.YtmcbniobbbjdjaaDoor
open Go.RowKit Go.Extern.Stop Go.Stop Go.Extern
theorem As_.no103 (v : Value) (xT : TypeId) (w : World) : (Instr.typeAssert (.iface 89 v) xT 121 true).run Tryd.prog w = .ok (.tuple #[.nilIface, .bool false]) w := run_typeAssert_lacksB Tryd.underlying121 (by kernel_rfl) (by kernel_rfl) v xT w
theorem As_.has106 (v : Value) (xT : TypeId) (w : World) : (Instr.typeAssert (.iface 89 v) xT 124 true).run Tryd.prog w = .ok (.tuple #[.iface 89 v, .bool true]) w := run_typeAssert_hasB Tryd.underlying124 (by kernel_rfl) v xT w
set_option maxHeartbeats 4000000 in
set_option maxRecDepth 100000 in
theorem as_code (g : Nat) (t : Addr) (c : Int) (old : Value) (w : World) (hg : w.cell? ⟨0, 0, none⟩ = some (.iface 116 (.agg #[.pointer (some ⟨1, 33, none⟩)]))) (he : w.cell? ⟨g, 1, none⟩ = some (.iface 49 (.int .i64 c))) (ht0 : w.cell? t = some old) (hf0 : w.frozen? t = false) :
    Calls Tryd.prog 43 #[.iface 89 (.pointer (some ⟨g, 0, none⟩)), .iface 88 (.pointer (some t))] w fun ev w' => ev = .returned (.bool true) ∧ w' = ((((w.alloc (.cells #[.pointer (some t)] 88)).alloc (.cells #[.pointer (some ⟨1, 88, none⟩), .pointer (some ⟨w.heap.size, 0, none⟩), .int .u64 150] 104)).alloc (.cells #[.pointer (some ⟨1, 88, none⟩), .pointer (some ⟨w.heap.size, 0, none⟩), .int .u64 150] 104)).alloc (.cells #[.int .i64 c] 49)).setCell t (.int .i64 c) := by
  have h6 := @run_callFunc_extern Tryd.prog 53 _ (fun args => ReflectliteValue.unpack (args.getD 0 (.tuple #[]))) Tryd.func53 (by kernel_rfl) (by kernel_rfl) (by kernel_rfl) (by kernel_rfl)
  have h7 := @run_callFunc_extern Tryd.prog 54 _ (ReflectliteValue.methodAny (ReflectliteValue.valueError "reflectlite.Value.Type" 0) (fun t _ _ _ => ReflectliteType.toType t)) Tryd.func54 (by kernel_rfl) (by kernel_rfl) (by kernel_rfl) (by kernel_rfl)
  have h8 := @run_callFunc_extern Tryd.prog 55 _ (ReflectliteValue.method (ReflectliteValue.valueError "reflectlite.Value.IsNil" 0) ReflectliteValue.isNil) Tryd.func55 (by kernel_rfl) (by kernel_rfl) (by kernel_rfl) (by kernel_rfl)
  have h27 := @run_callFunc_extern Tryd.prog 76 _ (ReflectliteType.abiMethod fun t => do pure (.int .u8 (← Rtype.kind t))) Tryd.func76 (by kernel_rfl) (by kernel_rfl) (by kernel_rfl) (by kernel_rfl)
  have h37 := @run_callFunc_extern Tryd.prog 88 _ (ReflectliteType.method ReflectliteType.elem) Tryd.func88 (by kernel_rfl) (by kernel_rfl) (by kernel_rfl) (by kernel_rfl)
  have h38 := @run_callFunc_extern Tryd.prog 89 _ (ReflectliteType.relation "Implements" ReflectliteType.implements_) Tryd.func89 (by kernel_rfl) (by kernel_rfl) (by kernel_rfl) (by kernel_rfl)
  have h10 := @run_callFunc_extern Tryd.prog 58 _ ReflectliteType.typeOf Tryd.func58 (by kernel_rfl) (by kernel_rfl) (by kernel_rfl) (by kernel_rfl)
  have h35 := @run_callFunc_extern Tryd.prog 86 _ (ReflectliteType.relation "AssignableTo" ReflectliteType.assignableTo) Tryd.func86 (by kernel_rfl) (by kernel_rfl) (by kernel_rfl) (by kernel_rfl)
  have h11 := @run_callFunc_extern Tryd.prog 59 _ (ReflectliteValue.method (ReflectliteValue.valueError "reflectlite.Value.Elem" 0) ReflectliteValue.elem) Tryd.func59 (by kernel_rfl) (by kernel_rfl) (by kernel_rfl) (by kernel_rfl)
  have h12 := @run_callFunc_extern Tryd.prog 60 _ ReflectliteValue.set Tryd.func60 (by kernel_rfl) (by kernel_rfl) (by kernel_rfl) (by kernel_rfl)
  have tO := As_.typeOf78
  have tO2 := As_.typeOf65
  have a65 := As_.assignable65
  have aNo := As_.assignable78no
  have v65 := As_.valueOf65
  have k65 := As_.kind65
  have i65 := As_.implements65
  have mU := As_.methodUnwrap
  have n103 := As_.no103
  have y106 := As_.has106
  have mA := As_.methodAssignableTo
  have a25 := As_.assignable78
  have v25 := As_.valueOf78
  have f6 := As_.valueOf77
  have f7 := As_.type77
  have mK := As_.methodKind
  have mE := As_.methodElem
  have mI := As_.methodImplements
  have k27 := As_.kind77
  have k25 := As_.kind78
  have e27 := As_.elem77
  have i25 := As_.implements78
  have n8 := As_.isNil77 ⟨w.heap.size, 0, none⟩ t ((w.alloc (.cells #[.pointer (some t)] 88)).alloc (.cells #[.pointer (some ⟨1, 88, none⟩), .pointer (some ⟨w.heap.size, 0, none⟩), .int .u64 150] 104)) (by simp)
  have hlt : 0 < w.heap.size := by
    rcases Nat.eq_zero_or_pos w.heap.size with h0 | h
    · simp [World.cell?, h0] at hg
    · exact h
  have hg2 : ((w.alloc (.cells #[.pointer (some t)] 88)).alloc (.cells #[.pointer (some ⟨1, 88, none⟩), .pointer (some ⟨w.heap.size, 0, none⟩), .int .u64 150] 104)).cell? ⟨0, 0, none⟩ = some (.iface 116 (.agg #[.pointer (some ⟨1, 33, none⟩)])) := by
    rw [World.cell?_alloc_lt _ _ ⟨0, 0, none⟩ (by simp), World.cell?_alloc_lt _ _ ⟨0, 0, none⟩ hlt]; exact hg
  have htl : t.block < w.heap.size := by
    rcases Nat.lt_or_ge t.block w.heap.size with h | h
    · exact h
    · simp [World.cell?, Array.getElem?_eq_none h] at ht0
  have el := As_.elemV77 ⟨w.heap.size, 0, none⟩ t (((w.alloc (.cells #[.pointer (some t)] 88)).alloc (.cells #[.pointer (some ⟨1, 88, none⟩), .pointer (some ⟨w.heap.size, 0, none⟩), .int .u64 150] 104)).alloc (.cells #[.pointer (some ⟨1, 88, none⟩), .pointer (some ⟨w.heap.size, 0, none⟩), .int .u64 150] 104)) (by rw [World.cell?_alloc_lt _ _ ⟨w.heap.size, 0, none⟩ (by simp; omega)]; simp)
  have st := As_.set65 t ⟨w.heap.size + 1 + 1 + 1, 0, none⟩ c old ((((w.alloc (.cells #[.pointer (some t)] 88)).alloc (.cells #[.pointer (some ⟨1, 88, none⟩), .pointer (some ⟨w.heap.size, 0, none⟩), .int .u64 150] 104)).alloc (.cells #[.pointer (some ⟨1, 88, none⟩), .pointer (some ⟨w.heap.size, 0, none⟩), .int .u64 150] 104)).alloc (.cells #[.int .i64 c] 49))
    (by rw [World.cell?_alloc_at _ _ _ _ (by simp)]; rfl)
    (by rw [World.cell?_alloc_lt _ _ t (by simp; omega), World.cell?_alloc_lt _ _ t (by simp; omega), World.cell?_alloc_lt _ _ t (by simp; omega), World.cell?_alloc_lt _ _ t htl]; exact ht0)
    (by rw [World.frozen?_alloc_old _ _ t (by simp; omega), World.frozen?_alloc_old _ _ t (by simp; omega), World.frozen?_alloc_old _ _ t (by simp; omega), World.frozen?_alloc_old _ _ t (Nat.ne_of_lt htl)]; exact hf0)
  have hgl : g < w.heap.size := by
    rcases Nat.lt_or_ge g w.heap.size with h | h
    · exact h
    · simp [World.cell?, Array.getElem?_eq_none h] at he
  have he2 : (((w.alloc (.cells #[.pointer (some t)] 88)).alloc (.cells #[.pointer (some ⟨1, 88, none⟩), .pointer (some ⟨w.heap.size, 0, none⟩), .int .u64 150] 104)).alloc (.cells #[.pointer (some ⟨1, 88, none⟩), .pointer (some ⟨w.heap.size, 0, none⟩), .int .u64 150] 104)).cell? ⟨g, 1, none⟩ = some (.iface 49 (.int .i64 c)) := by
    rw [World.cell?_alloc_lt _ _ ⟨g, 1, none⟩ (by simp; omega), World.cell?_alloc_lt _ _ ⟨g, 1, none⟩ (by simp; omega), World.cell?_alloc_lt _ _ ⟨g, 1, none⟩ hgl]; exact he
  go_enter Tryd.func43, Tryd.ntmps43
  go_wp2
  refine wp_loop_rounds 2 ?_
  rw [rounds_succ]
  go_wp2
  rw [rounds_succ]
  go_wp2
  go_ret
  exact ⟨rfl, rfl⟩

end Go.Proofs.YtmcbniobbbjdjaaDoor
namespace Go.Proofs.YtmcbniobbbjdjaaDoor.Tree
open Go.Proofs.YtmcbniobbbjdjaaDoor
open Go.RowKit Go.Extern.Stop Go.Stop Go.Extern Go.Proofs.YtmcbniobbbjdjaaDoorW.PrintWords
def Handle (w : World) : Prop := w.cell? ⟨0, 0, none⟩ = some (.iface 116 (.agg #[.pointer (some ⟨1, 33, none⟩)]))
theorem cell5 {w : World} {a : Addr} {v : Value} (h : w.cell? a = some v) (o1 o2 o3 o4 o5 : Obj) : (((((w.alloc o1).alloc o2).alloc o3).alloc o4).alloc o5).cell? a = some v := by
  have hl := World.block_lt_of_cell? w a h
  rw [World.cell?_alloc_lt _ _ a (by simp; omega), World.cell?_alloc_lt _ _ a (by simp; omega), World.cell?_alloc_lt _ _ a (by simp; omega), World.cell?_alloc_lt _ _ a (by simp; omega), World.cell?_alloc_lt _ _ a hl]; exact h
theorem cell_lt {w : World} {a : Addr} {v : Value} (h : w.cell? a = some v) : a.block < w.heap.size := World.block_lt_of_cell? w a h
set_option maxHeartbeats 4000000 in
set_option maxRecDepth 100000 in
theorem code_calls (g : Nat) (c : Int) (w : World) (hg : Handle w) (he : w.cell? ⟨g, 1, none⟩ = some (.iface 49 (.int .i64 c))) :
    Calls Tryd.prog 21 #[.iface 89 (.pointer (some ⟨g, 0, none⟩))] w fun e w' => e = .returned (.int .i64 c) ∧ Below w.heap.size w w' := by
  have hgA : (w.alloc (.cells #[.int .i64 0] 49)).cell? ⟨0, 0, none⟩ = some (.iface 116 (.agg #[.pointer (some ⟨1, 33, none⟩)])) := by
    rw [World.cell?_alloc_lt _ _ ⟨0, 0, none⟩ (cell_lt hg)]; exact hg
  have heA : (w.alloc (.cells #[.int .i64 0] 49)).cell? ⟨g, 1, none⟩ = some (.iface 49 (.int .i64 c)) := by
    rw [World.cell?_alloc_lt _ _ ⟨g, 1, none⟩ (cell_lt he)]; exact he
  have htA : (w.alloc (.cells #[.int .i64 0] 49)).cell? ⟨w.heap.size, 0, none⟩ = some (.int .i64 0) := by simp
  have hfA : (w.alloc (.cells #[.int .i64 0] 49)).frozen? ⟨w.heap.size, 0, none⟩ = false := by simp
  go_enter Tryd.func21, Tryd.ntmps21
  go_wp2_with fail
  refine (as_code g ⟨w.heap.size, 0, none⟩ c (.int .i64 0) _ hgA heA htA hfA).mono ?_
  rintro e w' ⟨rfl, rfl⟩
  go_wp2_with fail
  go_ret
  exact ⟨rfl, by repeat (first | exact Below.refl _ _ | apply below_alloc)⟩
set_option maxHeartbeats 4000000 in
set_option maxRecDepth 100000 in
theorem place_calls (g : Nat) (p : Int) (w : World) (hg : Handle w) (he : w.cell? ⟨g, 0, none⟩ = some (.int .i64 p)) :
    Calls Tryd.prog 22 #[.iface 89 (.pointer (some ⟨g, 0, none⟩))] w fun e w' => e = .returned (.int .i64 p) ∧ Below w.heap.size w w' := by
  have hgA : (w.alloc (.cells #[.pointer none] 89)).cell? ⟨0, 0, none⟩ = some (.iface 116 (.agg #[.pointer (some ⟨1, 33, none⟩)])) := by
    rw [World.cell?_alloc_lt _ _ ⟨0, 0, none⟩ (cell_lt hg)]; exact hg
  have htA : (w.alloc (.cells #[.pointer none] 89)).cell? ⟨w.heap.size, 0, none⟩ = some (.pointer none) := by simp
  have hfA : (w.alloc (.cells #[.pointer none] 89)).frozen? ⟨w.heap.size, 0, none⟩ = false := by simp
  have he5 := fun o1 o2 o3 o4 o5 => cell5 he o1 o2 o3 o4 o5
  go_enter Tryd.func22, Tryd.ntmps22
  go_wp2_with fail
  refine (as_hit ⟨g, 0, none⟩ ⟨w.heap.size, 0, none⟩ (.pointer none) _ hgA htA hfA).mono ?_
  rintro e w' ⟨rfl, rfl⟩
  go_wp2_with fail
  go_ret
  exact ⟨rfl, by repeat (first | exact Below.refl _ _ | apply below_alloc)⟩
theorem Handle_below {w w1 : World} (h : Handle w) (hb : Below w.heap.size w w1) : Handle w1 := (hb.cell (World.block_lt_of_cell? w _ h)).trans h
set_option maxHeartbeats 4000000 in
set_option maxRecDepth 100000 in
theorem code_nil (w : World) : Calls Tryd.prog 21 #[.nilIface] w fun e w' => e = .returned (.int .i64 0) ∧ Below w.heap.size w w' := by
  go_enter Tryd.func21, Tryd.ntmps21
  go_wp2_with fail
  go_ret
  exact ⟨rfl, by repeat (first | exact Below.refl _ _ | apply below_alloc)⟩
set_option maxHeartbeats 4000000 in
set_option maxRecDepth 100000 in
theorem place_nil (w : World) : Calls Tryd.prog 22 #[.nilIface] w fun e w' => e = .returned (.int .i64 (-1)) ∧ Below w.heap.size w w' := by
  go_enter Tryd.func22, Tryd.ntmps22
  go_wp2_with fail
  refine (as_nil _ _).mono ?_
  rintro e w' ⟨rfl, rfl⟩
  go_wp2_with fail
  go_ret
  exact ⟨rfl, by repeat (first | exact Below.refl _ _ | apply below_alloc)⟩
theorem Code_calls (v : Value) (x : Option (Int × Int)) (w : World) (hg : Handle w) (hv : ErrV w v x) :
    Calls Tryd.prog 21 #[v] w fun e w' => e = .returned (.int .i64 (codeOf x)) ∧ Below w.heap.size w w' := by
  cases x with
  | none => obtain rfl : v = .nilIface := hv; exact code_nil w
  | some x =>
    obtain ⟨g, rfl, h⟩ := hv
    exact code_calls g x.2 w hg ((blk_cell h 1).trans rfl)
theorem Place_calls (v : Value) (x : Option (Int × Int)) (w : World) (hg : Handle w) (hv : ErrV w v x) :
    Calls Tryd.prog 22 #[v] w fun e w' => e = .returned (.int .i64 (placeOf x)) ∧ Below w.heap.size w w' := by
  cases x with
  | none => obtain rfl : v = .nilIface := hv; exact place_nil w
  | some x =>
    obtain ⟨g, rfl, h⟩ := hv
    exact place_calls g x.1 w hg ((blk_cell h 0).trans rfl)
def isB (x : Option (Int × Int)) (code at_ : Int) : Bool := decide (codeOf x = code) && decide (placeOf x = at_)
set_option maxHeartbeats 4000000 in
set_option maxRecDepth 100000 in
theorem is_calls (v : Value) (x : Option (Int × Int)) (code at_ : Int) (w : World) (hg : Handle w) (hv : ErrV w v x) :
    Calls Tryd.prog 10 #[v, .int .i64 code, .int .i64 at_] w fun e w' => e = .returned (.bool (isB x code at_)) ∧ Below w.heap.size w w' := by
  have HG := Aside0.mk hg
  have HV := Aside0.mk hv
  clear hg hv
  unfold isB
  obtain ⟨c, hc⟩ : ∃ c, c = codeOf x := ⟨_, rfl⟩
  obtain ⟨p, hp⟩ : ∃ p, p = placeOf x := ⟨_, rfl⟩
  have HCC := Aside0.mk hc
  have HPP := Aside0.mk hp
  rw [← hc, ← hp]
  clear hc hp
  by_cases c1 : c = code
  · have q1 : (c == code) = true := beq_iff_eq.mpr c1
    by_cases c2 : p = at_
    · have q2 : (p == at_) = true := beq_iff_eq.mpr c2
      go_enter Tryd.func10, Tryd.ntmps10
      go_wp2_with fail
      refine (Code_calls v x w HG.out HV.out).mono ?_
      rintro e w1 ⟨rfl, hb⟩
      rw [← HCC.out]
      go_wp2_with fail
      refine (Place_calls v x w1 (Handle_below HG.out hb) (HV.out.below hb)).mono ?_
      rintro e w2 ⟨rfl, hb2⟩
      rw [← HPP.out]
      go_wp2_with fail
      go_ret
      exact ⟨by simp [c1, c2], below_step hb hb2⟩
    · have q2 : (p == at_) = false := beq_eq_false_iff_ne.mpr c2
      go_enter Tryd.func10, Tryd.ntmps10
      go_wp2_with fail
      refine (Code_calls v x w HG.out HV.out).mono ?_
      rintro e w1 ⟨rfl, hb⟩
      rw [← HCC.out]
      go_wp2_with fail
      refine (Place_calls v x w1 (Handle_below HG.out hb) (HV.out.below hb)).mono ?_
      rintro e w2 ⟨rfl, hb2⟩
      rw [← HPP.out]
      go_wp2_with fail
      go_ret
      exact ⟨by simp [c2], below_step hb hb2⟩
  · have q1 : (c == code) = false := beq_eq_false_iff_ne.mpr c1
    go_enter Tryd.func10, Tryd.ntmps10
    go_wp2_with fail
    refine (Code_calls v x w HG.out HV.out).mono ?_
    rintro e w1 ⟨rfl, hb⟩
    rw [← HCC.out]
    go_wp2_with fail
    go_ret
    exact ⟨by simp [c1], hb⟩
end Go.Proofs.YtmcbniobbbjdjaaDoor.Tree
