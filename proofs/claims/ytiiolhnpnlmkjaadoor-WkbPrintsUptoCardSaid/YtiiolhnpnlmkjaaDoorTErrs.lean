/- api.Code, api.Place and the laws' is by contracts, over errors.As. No conditions but those told of the cells. -/
import Derived.Test.YtiiolhnpnlmkjaaDoorProg
import Derived.WalkKit
import Derived.LaidEql
import Derived.Stop.Asserts
import Derived.RowKitTokens
import Derived.BigQuiet
import Derived.Test.YtiiolhnpnlmkjaaDoorTRCheck
namespace Go.Proofs.YtiiolhnpnlmkjaaDoor
open Go.RowKit Go.Extern.Stop Go.Stop Go.Extern

/-- errors.As(nil, target). -/
theorem as_nil (t : Value) (w : World) :
    Calls Tryd.prog 49 #[.nilIface, t] w fun e w' => e = .returned (.bool false) ∧ w' = w := by
  go_enter Tryd.func49, Tryd.ntmps49
  go_wp2
  go_ret
  exact ⟨rfl, rfl⟩

/-! ### closed facts: 109: *api.Fault, 111: **api.Fault, 70: api.Errno, 114: *api.Errno, 32: error, 182: reflectlite's rtype -/
theorem As_.valueOf79 (t : Addr) (w : World) : (ReflectliteValue.unpack (.iface 111 (.pointer (some t)))).run Tryd.prog w
    = .ok (.agg #[.pointer (some ⟨1, 111, none⟩), .pointer (some ⟨w.heap.size, 0, none⟩), .int .u64 150]) (w.alloc (.cells #[.pointer (some t)] 111)) := by kernel_rfl
theorem As_.type79 (a : Addr) (w : World) : (ReflectliteValue.methodAny (ReflectliteValue.valueError "reflectlite.Value.Type" 0) (fun t _ _ _ => ReflectliteType.toType t) #[.agg #[.pointer (some ⟨1, 111, none⟩), .pointer (some a), .int .u64 150]]).run Tryd.prog w
    = .ok (.iface 182 (.agg #[.pointer (some ⟨1, 111, none⟩)])) w := by kernel_rfl
theorem As_.methodKind (h : Value) (w : World) : (Go.method 328 182 (.agg #[h]) "Kind").run Tryd.prog w = .ok (126, h) w := by kernel_rfl
theorem As_.kind79 (w : World) : ((ReflectliteType.abiMethod fun t => (fun a : Nat => Value.int IntKind.u8 (a : Int)) <$> Rtype.kind t) #[.pointer (some ⟨1, 111, none⟩)]).run Tryd.prog w = .ok (.int .u8 22) w := by kernel_rfl
theorem As_.kind78 (w : World) : ((ReflectliteType.abiMethod fun t => (fun a : Nat => Value.int IntKind.u8 (a : Int)) <$> Rtype.kind t) #[.pointer (some ⟨1, 109, none⟩)]).run Tryd.prog w = .ok (.int .u8 22) w := by kernel_rfl

/-! ### THE ENTRIES THAT READ OR WRITE MEMORY: laws with a premise on the cell (after Derived/Lib/ReflectliteSlice.lean's manner: each unfolding a lemma of its own, by rfl) -/
theorem rlm (z : Sem Value) (f : TypeId → Addr → Nat → Nat → Sem Value) (v : Value) :
    ReflectliteValue.method z f #[v] = (do match ← ReflectliteValue.parts v with | none => z | some (t, a, fl) => f t a fl (fl % 32)) := rfl
theorem As_.parts79 (a : Addr) (w : World) : (ReflectliteValue.parts (.agg #[.pointer (some ⟨1, 111, none⟩), .pointer (some a), .int .u64 150])).run Tryd.prog w = .ok (some (111, a, 150)) w := by kernel_rfl
/-- (Value).IsNil at the Value of a **p.E that is not nil. -/
theorem As_.isNil79 (a p : Addr) (W : World) (ha : W.cell? a = some (.pointer (some p))) :
    (ReflectliteValue.method (ReflectliteValue.valueError "reflectlite.Value.IsNil" 0) ReflectliteValue.isNil #[.agg #[.pointer (some ⟨1, 111, none⟩), .pointer (some a), .int .u64 150]]).run Tryd.prog W = .ok (.bool false) W := by
  rw [rlm]
  simp only [Sem.run_bind, As_.parts79, Result.andThen]
  simp [ReflectliteValue.isNil, loadVar, isAgg, underlying, Tryd.underlying111, ha, Result.andThen]

theorem As_.methodElem (h : Value) (w : World) : (Go.method 328 182 (.agg #[h]) "Elem").run Tryd.prog w = .ok (138, .agg #[h]) w := by kernel_rfl
theorem As_.methodImplements (h : Value) (w : World) : (Go.method 328 182 (.agg #[h]) "Implements").run Tryd.prog w = .ok (139, .agg #[h]) w := by kernel_rfl
theorem As_.methodAssignableTo (h : Value) (w : World) : (Go.method 328 182 (.agg #[h]) "AssignableTo").run Tryd.prog w = .ok (136, .agg #[h]) w := by kernel_rfl
theorem As_.elem79 (w : World) : (ReflectliteType.method ReflectliteType.elem #[.agg #[.pointer (some ⟨1, 111, none⟩)]]).run Tryd.prog w = .ok (.iface 182 (.agg #[.pointer (some ⟨1, 109, none⟩)])) w := by kernel_rfl
theorem As_.implements78 (w : World) : (ReflectliteType.relation "Implements" ReflectliteType.implements_ #[.agg #[.pointer (some ⟨1, 109, none⟩)], .iface 182 (.agg #[.pointer (some ⟨1, 32, none⟩)])]).run Tryd.prog w = .ok (.bool true) w := by kernel_rfl
theorem As_.typeOf78 (v : Value) (w : World) : (ReflectliteType.typeOf #[.iface 109 v]).run Tryd.prog w = .ok (.iface 182 (.agg #[.pointer (some ⟨1, 109, none⟩)])) w := by kernel_rfl
theorem As_.assignable78 (w : World) : (ReflectliteType.relation "AssignableTo" ReflectliteType.assignableTo #[.agg #[.pointer (some ⟨1, 109, none⟩)], .iface 182 (.agg #[.pointer (some ⟨1, 109, none⟩)])]).run Tryd.prog w = .ok (.bool true) w := by kernel_rfl
theorem As_.valueOf78 (e : Addr) (w : World) : (ReflectliteValue.unpack (.iface 109 (.pointer (some e)))).run Tryd.prog w
    = .ok (.agg #[.pointer (some ⟨1, 109, none⟩), .pointer (some ⟨w.heap.size, 0, none⟩), .int .u64 150]) (w.alloc (.cells #[.pointer (some e)] 109)) := by kernel_rfl

theorem As_.elemOf79 (w : World) : (Rtype.elem? 111).run Tryd.prog w = .ok (some 109) w := by kernel_rfl
theorem As_.mk78 (p : Addr) (w : World) : (ReflectliteValue.mk 109 p ReflectliteValue.flagAddr).run Tryd.prog w = .ok (.agg #[.pointer (some ⟨1, 109, none⟩), .pointer (some p), .int .u64 406]) w := by kernel_rfl
/-- (Value).Elem at the Value of a **p.E that is not nil: the Value of the *p.E variable that it points to, addressable. -/
theorem As_.elemV79 (a p : Addr) (W : World) (ha : W.cell? a = some (.pointer (some p))) :
    (ReflectliteValue.method (ReflectliteValue.valueError "reflectlite.Value.Elem" 0) ReflectliteValue.elem #[.agg #[.pointer (some ⟨1, 111, none⟩), .pointer (some a), .int .u64 150]]).run Tryd.prog W
      = .ok (.agg #[.pointer (some ⟨1, 109, none⟩), .pointer (some p), .int .u64 406]) W := by
  rw [rlm]
  simp only [Sem.run_bind, As_.parts79, Result.andThen]
  simp [ReflectliteValue.elem, loadVar, isAgg, underlying, Tryd.underlying111, ha, Result.andThen, As_.elemOf79, As_.mk78]
theorem rls (v x : Value) : ReflectliteValue.set #[v, x] = (do
    let (some (dst, a, fl), some (src, b, _)) := (← ReflectliteValue.parts v, ← ReflectliteValue.parts x)
      | unsupported (.noEntry "extern/(internal/reflectlite.Value).Set.zeroValue")
    if fl / ReflectliteValue.flagAddr % 2 == 0 then unsupported (.noEntry "extern/(internal/reflectlite.Value).Set.unaddressable")
    let val ← loadVar src b
    if ← Rtype.directlyAssignable dst src then storeVar dst a val
    else if ← Rtype.implements dst src then
      if (← Rtype.kind src) == 20 then
        match val with
        | .nilIface => unsupported (.noEntry "extern/reflectlite: a nil value of one interface type handed on as a value of another")
        | _ => storeVar dst a val
      else storeVar dst a (.iface src val)
    else panicString ("reflectlite.Set: value of type " ++ (← Rtype.spelt src) ++ " is not assignable to type " ++ (← Rtype.spelt dst))
    pure (.tuple #[])) := rfl
theorem As_.parts78a (a : Addr) (w : World) : (ReflectliteValue.parts (.agg #[.pointer (some ⟨1, 109, none⟩), .pointer (some a), .int .u64 406])).run Tryd.prog w = .ok (some (109, a, 406)) w := by kernel_rfl
theorem As_.parts78 (a : Addr) (w : World) : (ReflectliteValue.parts (.agg #[.pointer (some ⟨1, 109, none⟩), .pointer (some a), .int .u64 150])).run Tryd.prog w = .ok (some (109, a, 150)) w := by kernel_rfl
theorem As_.direct78 (w : World) : (Rtype.directlyAssignable 109 109).run Tryd.prog w = .ok true w := by kernel_rfl
theorem As_.size78 (w : World) : (sizeOf 109).run Tryd.prog w = .ok 1 w := by kernel_rfl
/-- (Value).Set: the *p.E variable at 'ta' gets what the Value's own variable 'b' holds. -/
theorem As_.set78 (ta b e : Addr) (old : Value) (W : World) (hb : W.cell? b = some (.pointer (some e))) (ht : W.cell? ta = some old) (hf : W.frozen? ta = false) :
    (ReflectliteValue.set #[.agg #[.pointer (some ⟨1, 109, none⟩), .pointer (some ta), .int .u64 406], .agg #[.pointer (some ⟨1, 109, none⟩), .pointer (some b), .int .u64 150]]).run Tryd.prog W
      = .ok (.tuple #[]) (W.setCell ta (.pointer (some e))) := by
  rw [rls]
  simp only [Sem.run_bind, As_.parts78a, As_.parts78, Result.andThen]
  simp [ReflectliteValue.flagAddr, loadVar, isAgg, underlying, Tryd.underlying109, hb, Result.andThen, As_.direct78, storeVar, Value.cells, storeCells, Addr.add]
  rw [run_store Tryd.prog W ta _ _ (by rfl)]
  simp [ht, hf]

set_option maxHeartbeats 4000000 in
theorem as_hit (e t : Addr) (old : Value) (w : World) (hg : w.cell? ⟨0, 0, none⟩ = some (.iface 182 (.agg #[.pointer (some ⟨1, 32, none⟩)]))) (ht0 : w.cell? t = some old) (hf0 : w.frozen? t = false) :
    Calls Tryd.prog 49 #[.iface 109 (.pointer (some e)), .iface 111 (.pointer (some t))] w fun ev w' => ev = .returned (.bool true) ∧ w' = ((((w.alloc (.cells #[.pointer (some t)] 111)).alloc (.cells #[.pointer (some ⟨1, 111, none⟩), .pointer (some ⟨w.heap.size, 0, none⟩), .int .u64 150] 155)).alloc (.cells #[.pointer (some ⟨1, 111, none⟩), .pointer (some ⟨w.heap.size, 0, none⟩), .int .u64 150] 155)).alloc (.cells #[.pointer (some e)] 109)).setCell t (.pointer (some e)) := by
  have h6 := @run_callFunc_extern Tryd.prog 77 _ (fun args => ReflectliteValue.unpack (args.getD 0 (.tuple #[]))) Tryd.func77 (by kernel_rfl) (by kernel_rfl) (by kernel_rfl) (by kernel_rfl)
  have h7 := @run_callFunc_extern Tryd.prog 78 _ (ReflectliteValue.methodAny (ReflectliteValue.valueError "reflectlite.Value.Type" 0) (fun t _ _ _ => ReflectliteType.toType t)) Tryd.func78 (by kernel_rfl) (by kernel_rfl) (by kernel_rfl) (by kernel_rfl)
  have h8 := @run_callFunc_extern Tryd.prog 79 _ (ReflectliteValue.method (ReflectliteValue.valueError "reflectlite.Value.IsNil" 0) ReflectliteValue.isNil) Tryd.func79 (by kernel_rfl) (by kernel_rfl) (by kernel_rfl) (by kernel_rfl)
  have h27 := @run_callFunc_extern Tryd.prog 126 _ (ReflectliteType.abiMethod fun t => do pure (.int .u8 (← Rtype.kind t))) Tryd.func126 (by kernel_rfl) (by kernel_rfl) (by kernel_rfl) (by kernel_rfl)
  have h37 := @run_callFunc_extern Tryd.prog 138 _ (ReflectliteType.method ReflectliteType.elem) Tryd.func138 (by kernel_rfl) (by kernel_rfl) (by kernel_rfl) (by kernel_rfl)
  have h38 := @run_callFunc_extern Tryd.prog 139 _ (ReflectliteType.relation "Implements" ReflectliteType.implements_) Tryd.func139 (by kernel_rfl) (by kernel_rfl) (by kernel_rfl) (by kernel_rfl)
  have h10 := @run_callFunc_extern Tryd.prog 101 _ ReflectliteType.typeOf Tryd.func101 (by kernel_rfl) (by kernel_rfl) (by kernel_rfl) (by kernel_rfl)
  have h35 := @run_callFunc_extern Tryd.prog 136 _ (ReflectliteType.relation "AssignableTo" ReflectliteType.assignableTo) Tryd.func136 (by kernel_rfl) (by kernel_rfl) (by kernel_rfl) (by kernel_rfl)
  have h11 := @run_callFunc_extern Tryd.prog 102 _ (ReflectliteValue.method (ReflectliteValue.valueError "reflectlite.Value.Elem" 0) ReflectliteValue.elem) Tryd.func102 (by kernel_rfl) (by kernel_rfl) (by kernel_rfl) (by kernel_rfl)
  have h12 := @run_callFunc_extern Tryd.prog 103 _ ReflectliteValue.set Tryd.func103 (by kernel_rfl) (by kernel_rfl) (by kernel_rfl) (by kernel_rfl)
  have tO := As_.typeOf78
  have mA := As_.methodAssignableTo
  have a25 := As_.assignable78
  have v25 := As_.valueOf78
  have f6 := As_.valueOf79
  have f7 := As_.type79
  have mK := As_.methodKind
  have mE := As_.methodElem
  have mI := As_.methodImplements
  have k27 := As_.kind79
  have k25 := As_.kind78
  have e27 := As_.elem79
  have i25 := As_.implements78
  have n8 := As_.isNil79 ⟨w.heap.size, 0, none⟩ t ((w.alloc (.cells #[.pointer (some t)] 111)).alloc (.cells #[.pointer (some ⟨1, 111, none⟩), .pointer (some ⟨w.heap.size, 0, none⟩), .int .u64 150] 155)) (by simp)
  have hlt : 0 < w.heap.size := by
    rcases Nat.eq_zero_or_pos w.heap.size with h0 | h
    · simp [World.cell?, h0] at hg
    · exact h
  have hg2 : ((w.alloc (.cells #[.pointer (some t)] 111)).alloc (.cells #[.pointer (some ⟨1, 111, none⟩), .pointer (some ⟨w.heap.size, 0, none⟩), .int .u64 150] 155)).cell? ⟨0, 0, none⟩ = some (.iface 182 (.agg #[.pointer (some ⟨1, 32, none⟩)])) := by
    rw [World.cell?_alloc_lt _ _ ⟨0, 0, none⟩ (by simp), World.cell?_alloc_lt _ _ ⟨0, 0, none⟩ hlt]; exact hg
  have htl : t.block < w.heap.size := by
    rcases Nat.lt_or_ge t.block w.heap.size with h | h
    · exact h
    · simp [World.cell?, Array.getElem?_eq_none h] at ht0
  have el := As_.elemV79 ⟨w.heap.size, 0, none⟩ t (((w.alloc (.cells #[.pointer (some t)] 111)).alloc (.cells #[.pointer (some ⟨1, 111, none⟩), .pointer (some ⟨w.heap.size, 0, none⟩), .int .u64 150] 155)).alloc (.cells #[.pointer (some ⟨1, 111, none⟩), .pointer (some ⟨w.heap.size, 0, none⟩), .int .u64 150] 155)) (by rw [World.cell?_alloc_lt _ _ ⟨w.heap.size, 0, none⟩ (by simp; omega)]; simp)
  have st := As_.set78 t ⟨w.heap.size + 1 + 1 + 1, 0, none⟩ e old ((((w.alloc (.cells #[.pointer (some t)] 111)).alloc (.cells #[.pointer (some ⟨1, 111, none⟩), .pointer (some ⟨w.heap.size, 0, none⟩), .int .u64 150] 155)).alloc (.cells #[.pointer (some ⟨1, 111, none⟩), .pointer (some ⟨w.heap.size, 0, none⟩), .int .u64 150] 155)).alloc (.cells #[.pointer (some e)] 109))
    (by rw [World.cell?_alloc_at _ _ _ _ (by simp)]; rfl)
    (by rw [World.cell?_alloc_lt _ _ t (by simp; omega), World.cell?_alloc_lt _ _ t (by simp; omega), World.cell?_alloc_lt _ _ t (by simp; omega), World.cell?_alloc_lt _ _ t htl]; exact ht0)
    (by rw [World.frozen?_alloc_old _ _ t (by simp; omega), World.frozen?_alloc_old _ _ t (by simp; omega), World.frozen?_alloc_old _ _ t (by simp; omega), World.frozen?_alloc_old _ _ t (Nat.ne_of_lt htl)]; exact hf0)
  go_enter Tryd.func49, Tryd.ntmps49
  go_wp2
  refine wp_loop_rounds 1 ?_
  rw [rounds_succ]
  go_wp2
  go_ret
  exact ⟨rfl, rfl⟩

/-! ### the target *api.Errno -/
theorem As_.valueOf77 (t : Addr) (w : World) : (ReflectliteValue.unpack (.iface 114 (.pointer (some t)))).run Tryd.prog w
    = .ok (.agg #[.pointer (some ⟨1, 114, none⟩), .pointer (some ⟨w.heap.size, 0, none⟩), .int .u64 150]) (w.alloc (.cells #[.pointer (some t)] 114)) := by kernel_rfl
theorem As_.type77 (a : Addr) (w : World) : (ReflectliteValue.methodAny (ReflectliteValue.valueError "reflectlite.Value.Type" 0) (fun t _ _ _ => ReflectliteType.toType t) #[.agg #[.pointer (some ⟨1, 114, none⟩), .pointer (some a), .int .u64 150]]).run Tryd.prog w
    = .ok (.iface 182 (.agg #[.pointer (some ⟨1, 114, none⟩)])) w := by kernel_rfl
theorem As_.kind77 (w : World) : ((ReflectliteType.abiMethod fun t => (fun a : Nat => Value.int IntKind.u8 (a : Int)) <$> Rtype.kind t) #[.pointer (some ⟨1, 114, none⟩)]).run Tryd.prog w = .ok (.int .u8 22) w := by kernel_rfl
theorem As_.kind65 (w : World) : ((ReflectliteType.abiMethod fun t => (fun a : Nat => Value.int IntKind.u8 (a : Int)) <$> Rtype.kind t) #[.pointer (some ⟨1, 70, none⟩)]).run Tryd.prog w = .ok (.int .u8 2) w := by kernel_rfl
theorem As_.parts77 (a : Addr) (w : World) : (ReflectliteValue.parts (.agg #[.pointer (some ⟨1, 114, none⟩), .pointer (some a), .int .u64 150])).run Tryd.prog w = .ok (some (114, a, 150)) w := by kernel_rfl
theorem As_.isNil77 (a p : Addr) (W : World) (ha : W.cell? a = some (.pointer (some p))) :
    (ReflectliteValue.method (ReflectliteValue.valueError "reflectlite.Value.IsNil" 0) ReflectliteValue.isNil #[.agg #[.pointer (some ⟨1, 114, none⟩), .pointer (some a), .int .u64 150]]).run Tryd.prog W = .ok (.bool false) W := by
  rw [rlm]
  simp only [Sem.run_bind, As_.parts77, Result.andThen]
  simp [ReflectliteValue.isNil, loadVar, isAgg, underlying, Tryd.underlying114, ha, Result.andThen]
theorem As_.elem77 (w : World) : (ReflectliteType.method ReflectliteType.elem #[.agg #[.pointer (some ⟨1, 114, none⟩)]]).run Tryd.prog w = .ok (.iface 182 (.agg #[.pointer (some ⟨1, 70, none⟩)])) w := by kernel_rfl
theorem As_.implements65 (w : World) : (ReflectliteType.relation "Implements" ReflectliteType.implements_ #[.agg #[.pointer (some ⟨1, 70, none⟩)], .iface 182 (.agg #[.pointer (some ⟨1, 32, none⟩)])]).run Tryd.prog w = .ok (.bool true) w := by kernel_rfl
theorem As_.typeOf65 (v : Value) (w : World) : (ReflectliteType.typeOf #[.iface 70 v]).run Tryd.prog w = .ok (.iface 182 (.agg #[.pointer (some ⟨1, 70, none⟩)])) w := by kernel_rfl
theorem As_.assignable65 (w : World) : (ReflectliteType.relation "AssignableTo" ReflectliteType.assignableTo #[.agg #[.pointer (some ⟨1, 70, none⟩)], .iface 182 (.agg #[.pointer (some ⟨1, 70, none⟩)])]).run Tryd.prog w = .ok (.bool true) w := by kernel_rfl
theorem As_.assignable78no (w : World) : (ReflectliteType.relation "AssignableTo" ReflectliteType.assignableTo #[.agg #[.pointer (some ⟨1, 109, none⟩)], .iface 182 (.agg #[.pointer (some ⟨1, 70, none⟩)])]).run Tryd.prog w = .ok (.bool false) w := by kernel_rfl
theorem As_.valueOf65 (c : Int) (w : World) : (ReflectliteValue.unpack (.iface 70 (.int .i64 c))).run Tryd.prog w
    = .ok (.agg #[.pointer (some ⟨1, 70, none⟩), .pointer (some ⟨w.heap.size, 0, none⟩), .int .u64 130]) (w.alloc (.cells #[.int .i64 c] 70)) := by kernel_rfl
theorem As_.elemOf77 (w : World) : (Rtype.elem? 114).run Tryd.prog w = .ok (some 70) w := by kernel_rfl
theorem As_.mk65 (p : Addr) (w : World) : (ReflectliteValue.mk 70 p ReflectliteValue.flagAddr).run Tryd.prog w = .ok (.agg #[.pointer (some ⟨1, 70, none⟩), .pointer (some p), .int .u64 386]) w := by kernel_rfl
theorem As_.elemV77 (a p : Addr) (W : World) (ha : W.cell? a = some (.pointer (some p))) :
    (ReflectliteValue.method (ReflectliteValue.valueError "reflectlite.Value.Elem" 0) ReflectliteValue.elem #[.agg #[.pointer (some ⟨1, 114, none⟩), .pointer (some a), .int .u64 150]]).run Tryd.prog W
      = .ok (.agg #[.pointer (some ⟨1, 70, none⟩), .pointer (some p), .int .u64 386]) W := by
  rw [rlm]
  simp only [Sem.run_bind, As_.parts77, Result.andThen]
  simp [ReflectliteValue.elem, loadVar, isAgg, underlying, Tryd.underlying114, ha, Result.andThen, As_.elemOf77, As_.mk65]
theorem As_.parts65a (a : Addr) (w : World) : (ReflectliteValue.parts (.agg #[.pointer (some ⟨1, 70, none⟩), .pointer (some a), .int .u64 386])).run Tryd.prog w = .ok (some (70, a, 386)) w := by kernel_rfl
theorem As_.parts65 (a : Addr) (w : World) : (ReflectliteValue.parts (.agg #[.pointer (some ⟨1, 70, none⟩), .pointer (some a), .int .u64 130])).run Tryd.prog w = .ok (some (70, a, 130)) w := by kernel_rfl
theorem As_.direct65 (w : World) : (Rtype.directlyAssignable 70 70).run Tryd.prog w = .ok true w := by kernel_rfl
theorem As_.size65 (w : World) : (sizeOf 70).run Tryd.prog w = .ok 1 w := by kernel_rfl
theorem As_.set65 (ta b : Addr) (c : Int) (old : Value) (W : World) (hb : W.cell? b = some (.int .i64 c)) (ht : W.cell? ta = some old) (hf : W.frozen? ta = false) :
    (ReflectliteValue.set #[.agg #[.pointer (some ⟨1, 70, none⟩), .pointer (some ta), .int .u64 386], .agg #[.pointer (some ⟨1, 70, none⟩), .pointer (some b), .int .u64 130]]).run Tryd.prog W
      = .ok (.tuple #[]) (W.setCell ta (.int .i64 c)) := by
  rw [rls]
  simp only [Sem.run_bind, As_.parts65a, As_.parts65, Result.andThen]
  simp [ReflectliteValue.flagAddr, loadVar, isAgg, underlying, Tryd.underlying70, hb, Result.andThen, As_.direct65, storeVar, Value.cells, storeCells, Addr.add]
  rw [run_store Tryd.prog W ta _ _ (by rfl)]
  simp [ht, hf]
theorem As_.methodUnwrap (h : Value) (w : World) : (Go.method 328 109 h "Unwrap").run Tryd.prog w = .ok (131, h) w := by kernel_rfl
end Go.Proofs.YtiiolhnpnlmkjaaDoor
namespace Go.Proofs.YtiiolhnpnlmkjaaDoor
open Go.RowKit Go.Extern.Stop Go.Stop Go.Extern
theorem As_.no103 (v : Value) (xT : TypeId) (w : World) : (Instr.typeAssert (.iface 109 v) xT 187 true).run Tryd.prog w = .ok (.tuple #[.nilIface, .bool false]) w := run_typeAssert_lacksB Tryd.underlying187 (by kernel_rfl) (by kernel_rfl) v xT w
theorem As_.has106 (v : Value) (xT : TypeId) (w : World) : (Instr.typeAssert (.iface 109 v) xT 190 true).run Tryd.prog w = .ok (.tuple #[.iface 109 v, .bool true]) w := run_typeAssert_hasB Tryd.underlying190 (by kernel_rfl) v xT w
set_option maxHeartbeats 4000000 in
set_option maxRecDepth 100000 in
theorem as_code (g : Nat) (t : Addr) (c : Int) (old : Value) (w : World) (hg : w.cell? ⟨0, 0, none⟩ = some (.iface 182 (.agg #[.pointer (some ⟨1, 32, none⟩)]))) (he : w.cell? ⟨g, 1, none⟩ = some (.iface 70 (.int .i64 c))) (ht0 : w.cell? t = some old) (hf0 : w.frozen? t = false) :
    Calls Tryd.prog 49 #[.iface 109 (.pointer (some ⟨g, 0, none⟩)), .iface 114 (.pointer (some t))] w fun ev w' => ev = .returned (.bool true) ∧ w' = ((((w.alloc (.cells #[.pointer (some t)] 114)).alloc (.cells #[.pointer (some ⟨1, 114, none⟩), .pointer (some ⟨w.heap.size, 0, none⟩), .int .u64 150] 155)).alloc (.cells #[.pointer (some ⟨1, 114, none⟩), .pointer (some ⟨w.heap.size, 0, none⟩), .int .u64 150] 155)).alloc (.cells #[.int .i64 c] 70)).setCell t (.int .i64 c) := by
  have h6 := @run_callFunc_extern Tryd.prog 77 _ (fun args => ReflectliteValue.unpack (args.getD 0 (.tuple #[]))) Tryd.func77 (by kernel_rfl) (by kernel_rfl) (by kernel_rfl) (by kernel_rfl)
  have h7 := @run_callFunc_extern Tryd.prog 78 _ (ReflectliteValue.methodAny (ReflectliteValue.valueError "reflectlite.Value.Type" 0) (fun t _ _ _ => ReflectliteType.toType t)) Tryd.func78 (by kernel_rfl) (by kernel_rfl) (by kernel_rfl) (by kernel_rfl)
  have h8 := @run_callFunc_extern Tryd.prog 79 _ (ReflectliteValue.method (ReflectliteValue.valueError "reflectlite.Value.IsNil" 0) ReflectliteValue.isNil) Tryd.func79 (by kernel_rfl) (by kernel_rfl) (by kernel_rfl) (by kernel_rfl)
  have h27 := @run_callFunc_extern Tryd.prog 126 _ (ReflectliteType.abiMethod fun t => do pure (.int .u8 (← Rtype.kind t))) Tryd.func126 (by kernel_rfl) (by kernel_rfl) (by kernel_rfl) (by kernel_rfl)
  have h37 := @run_callFunc_extern Tryd.prog 138 _ (ReflectliteType.method ReflectliteType.elem) Tryd.func138 (by kernel_rfl) (by kernel_rfl) (by kernel_rfl) (by kernel_rfl)
  have h38 := @run_callFunc_extern Tryd.prog 139 _ (ReflectliteType.relation "Implements" ReflectliteType.implements_) Tryd.func139 (by kernel_rfl) (by kernel_rfl) (by kernel_rfl) (by kernel_rfl)
  have h10 := @run_callFunc_extern Tryd.prog 101 _ ReflectliteType.typeOf Tryd.func101 (by kernel_rfl) (by kernel_rfl) (by kernel_rfl) (by kernel_rfl)
  have h35 := @run_callFunc_extern Tryd.prog 136 _ (ReflectliteType.relation "AssignableTo" ReflectliteType.assignableTo) Tryd.func136 (by kernel_rfl) (by kernel_rfl) (by kernel_rfl) (by kernel_rfl)
  have h11 := @run_callFunc_extern Tryd.prog 102 _ (ReflectliteValue.method (ReflectliteValue.valueError "reflectlite.Value.Elem" 0) ReflectliteValue.elem) Tryd.func102 (by kernel_rfl) (by kernel_rfl) (by kernel_rfl) (by kernel_rfl)
  have h12 := @run_callFunc_extern Tryd.prog 103 _ ReflectliteValue.set Tryd.func103 (by kernel_rfl) (by kernel_rfl) (by kernel_rfl) (by kernel_rfl)
  have tO := As_.typeOf78
  have tO2 := As_.typeOf65
  have a65 := As_.assignable65
  have aNo := As_.assignable78no
  have v65 := As_.valueOf65
  have k65 := As_.kind65
  have i65 := As_.implements65
  have mU := As_.methodUnwrap
  have n103 := As_.no103
  have y106 := As_.has106
  have mA := As_.methodAssignableTo
  have a25 := As_.assignable78
  have v25 := As_.valueOf78
  have f6 := As_.valueOf77
  have f7 := As_.type77
  have mK := As_.methodKind
  have mE := As_.methodElem
  have mI := As_.methodImplements
  have k27 := As_.kind77
  have k25 := As_.kind78
  have e27 := As_.elem77
  have i25 := As_.implements78
  have n8 := As_.isNil77 ⟨w.heap.size, 0, none⟩ t ((w.alloc (.cells #[.pointer (some t)] 114)).alloc (.cells #[.pointer (some ⟨1, 114, none⟩), .pointer (some ⟨w.heap.size, 0, none⟩), .int .u64 150] 155)) (by simp)
  have hlt : 0 < w.heap.size := by
    rcases Nat.eq_zero_or_pos w.heap.size with h0 | h
    · simp [World.cell?, h0] at hg
    · exact h
  have hg2 : ((w.alloc (.cells #[.pointer (some t)] 114)).alloc (.cells #[.pointer (some ⟨1, 114, none⟩), .pointer (some ⟨w.heap.size, 0, none⟩), .int .u64 150] 155)).cell? ⟨0, 0, none⟩ = some (.iface 182 (.agg #[.pointer (some ⟨1, 32, none⟩)])) := by
    rw [World.cell?_alloc_lt _ _ ⟨0, 0, none⟩ (by simp), World.cell?_alloc_lt _ _ ⟨0, 0, none⟩ hlt]; exact hg
  have htl : t.block < w.heap.size := by
    rcases Nat.lt_or_ge t.block w.heap.size with h | h
    · exact h
    · simp [World.cell?, Array.getElem?_eq_none h] at ht0
  have el := As_.elemV77 ⟨w.heap.size, 0, none⟩ t (((w.alloc (.cells #[.pointer (some t)] 114)).alloc (.cells #[.pointer (some ⟨1, 114, none⟩), .pointer (some ⟨w.heap.size, 0, none⟩), .int .u64 150] 155)).alloc (.cells #[.pointer (some ⟨1, 114, none⟩), .pointer (some ⟨w.heap.size, 0, none⟩), .int .u64 150] 155)) (by rw [World.cell?_alloc_lt _ _ ⟨w.heap.size, 0, none⟩ (by simp; omega)]; simp)
  have st := As_.set65 t ⟨w.heap.size + 1 + 1 + 1, 0, none⟩ c old ((((w.alloc (.cells #[.pointer (some t)] 114)).alloc (.cells #[.pointer (some ⟨1, 114, none⟩), .pointer (some ⟨w.heap.size, 0, none⟩), .int .u64 150] 155)).alloc (.cells #[.pointer (some ⟨1, 114, none⟩), .pointer (some ⟨w.heap.size, 0, none⟩), .int .u64 150] 155)).alloc (.cells #[.int .i64 c] 70))
    (by rw [World.cell?_alloc_at _ _ _ _ (by simp)]; rfl)
    (by rw [World.cell?_alloc_lt _ _ t (by simp; omega), World.cell?_alloc_lt _ _ t (by simp; omega), World.cell?_alloc_lt _ _ t (by simp; omega), World.cell?_alloc_lt _ _ t htl]; exact ht0)
    (by rw [World.frozen?_alloc_old _ _ t (by simp; omega), World.frozen?_alloc_old _ _ t (by simp; omega), World.frozen?_alloc_old _ _ t (by simp; omega), World.frozen?_alloc_old _ _ t (Nat.ne_of_lt htl)]; exact hf0)
  have hgl : g < w.heap.size := by
    rcases Nat.lt_or_ge g w.heap.size with h | h
    · exact h
    · simp [World.cell?, Array.getElem?_eq_none h] at he
  have he2 : (((w.alloc (.cells #[.pointer (some t)] 114)).alloc (.cells #[.pointer (some ⟨1, 114, none⟩), .pointer (some ⟨w.heap.size, 0, none⟩), .int .u64 150] 155)).alloc (.cells #[.pointer (some ⟨1, 114, none⟩), .pointer (some ⟨w.heap.size, 0, none⟩), .int .u64 150] 155)).cell? ⟨g, 1, none⟩ = some (.iface 70 (.int .i64 c)) := by
    rw [World.cell?_alloc_lt _ _ ⟨g, 1, none⟩ (by simp; omega), World.cell?_alloc_lt _ _ ⟨g, 1, none⟩ (by simp; omega), World.cell?_alloc_lt _ _ ⟨g, 1, none⟩ hgl]; exact he
  go_enter Tryd.func49, Tryd.ntmps49
  go_wp2
  refine wp_loop_rounds 2 ?_
  rw [rounds_succ]
  go_wp2
  rw [rounds_succ]
  go_wp2
  go_ret
  exact ⟨rfl, rfl⟩

end Go.Proofs.YtiiolhnpnlmkjaaDoor
namespace Go.Proofs.YtiiolhnpnlmkjaaDoor.Tree
open Go.Proofs.YtiiolhnpnlmkjaaDoor
open Go.RowKit Go.Extern.Stop Go.Stop Go.Extern Go.Proofs.YtiiolhnpnlmkjaaDoorW.PrintWords
def Handle (w : World) : Prop := w.cell? ⟨0, 0, none⟩ = some (.iface 182 (.agg #[.pointer (some ⟨1, 32, none⟩)]))
theorem cell5 {w : World} {a : Addr} {v : Value} (h : w.cell? a = some v) (o1 o2 o3 o4 o5 : Obj) : (((((w.alloc o1).alloc o2).alloc o3).alloc o4).alloc o5).cell? a = some v := by
  have hl := World.block_lt_of_cell? w a h
  rw [World.cell?_alloc_lt _ _ a (by simp; omega), World.cell?_alloc_lt _ _ a (by simp; omega), World.cell?_alloc_lt _ _ a (by simp; omega), World.cell?_alloc_lt _ _ a (by simp; omega), World.cell?_alloc_lt _ _ a hl]; exact h
theorem cell_lt {w : World} {a : Addr} {v : Value} (h : w.cell? a = some v) : a.block < w.heap.size := World.block_lt_of_cell? w a h
set_option maxHeartbeats 4000000 in
set_option maxRecDepth 100000 in
theorem code_calls (g : Nat) (c : Int) (w : World) (hg : Handle w) (he : w.cell? ⟨g, 1, none⟩ = some (.iface 70 (.int .i64 c))) :
    Calls Tryd.prog 32 #[.iface 109 (.pointer (some ⟨g, 0, none⟩))] w fun e w' => e = .returned (.int .i64 c) ∧ Below w.heap.size w w' := by
  have hgA : (w.alloc (.cells #[.int .i64 0] 70)).cell? ⟨0, 0, none⟩ = some (.iface 182 (.agg #[.pointer (some ⟨1, 32, none⟩)])) := by
    rw [World.cell?_alloc_lt _ _ ⟨0, 0, none⟩ (cell_lt hg)]; exact hg
  have heA : (w.alloc (.cells #[.int .i64 0] 70)).cell? ⟨g, 1, none⟩ = some (.iface 70 (.int .i64 c)) := by
    rw [World.cell?_alloc_lt _ _ ⟨g, 1, none⟩ (cell_lt he)]; exact he
  have htA : (w.alloc (.cells #[.int .i64 0] 70)).cell? ⟨w.heap.size, 0, none⟩ = some (.int .i64 0) := by simp
  have hfA : (w.alloc (.cells #[.int .i64 0] 70)).frozen? ⟨w.heap.size, 0, none⟩ = false := by simp
  go_enter Tryd.func32, Tryd.ntmps32
  go_wp2_with fail
  refine (as_code g ⟨w.heap.size, 0, none⟩ c (.int .i64 0) _ hgA heA htA hfA).mono ?_
  rintro e w' ⟨rfl, rfl⟩
  go_wp2_with fail
  go_ret
  exact ⟨rfl, by repeat (first | exact Below.refl _ _ | apply below_alloc)⟩
set_option maxHeartbeats 4000000 in
set_option maxRecDepth 100000 in
theorem place_calls (g : Nat) (p : Int) (w : World) (hg : Handle w) (he : w.cell? ⟨g, 0, none⟩ = some (.int .i64 p)) :
    Calls Tryd.prog 30 #[.iface 109 (.pointer (some ⟨g, 0, none⟩))] w fun e w' => e = .returned (.int .i64 p) ∧ Below w.heap.size w w' := by
  have hgA : (w.alloc (.cells #[.pointer none] 109)).cell? ⟨0, 0, none⟩ = some (.iface 182 (.agg #[.pointer (some ⟨1, 32, none⟩)])) := by
    rw [World.cell?_alloc_lt _ _ ⟨0, 0, none⟩ (cell_lt hg)]; exact hg
  have htA : (w.alloc (.cells #[.pointer none] 109)).cell? ⟨w.heap.size, 0, none⟩ = some (.pointer none) := by simp
  have hfA : (w.alloc (.cells #[.pointer none] 109)).frozen? ⟨w.heap.size, 0, none⟩ = false := by simp
  have he5 := fun o1 o2 o3 o4 o5 => cell5 he o1 o2 o3 o4 o5
  go_enter Tryd.func30, Tryd.ntmps30
  go_wp2_with fail
  refine (as_hit ⟨g, 0, none⟩ ⟨w.heap.size, 0, none⟩ (.pointer none) _ hgA htA hfA).mono ?_
  rintro e w' ⟨rfl, rfl⟩
  go_wp2_with fail
  go_ret
  exact ⟨rfl, by repeat (first | exact Below.refl _ _ | apply below_alloc)⟩
theorem Handle_below {w w1 : World} (h : Handle w) (hb : Below w.heap.size w w1) : Handle w1 := (hb.cell (World.block_lt_of_cell? w _ h)).trans h
set_option maxHeartbeats 4000000 in
set_option maxRecDepth 100000 in
theorem code_nil (w : World) : Calls Tryd.prog 32 #[.nilIface] w fun e w' => e = .returned (.int .i64 0) ∧ Below w.heap.size w w' := by
  go_enter Tryd.func32, Tryd.ntmps32
  go_wp2_with fail
  go_ret
  exact ⟨rfl, by repeat (first | exact Below.refl _ _ | apply below_alloc)⟩
set_option maxHeartbeats 4000000 in
set_option maxRecDepth 100000 in
theorem place_nil (w : World) : Calls Tryd.prog 30 #[.nilIface] w fun e w' => e = .returned (.int .i64 (-1)) ∧ Below w.heap.size w w' := by
  go_enter Tryd.func30, Tryd.ntmps30
  go_wp2_with fail
  refine (as_nil _ _).mono ?_
  rintro e w' ⟨rfl, rfl⟩
  go_wp2_with fail
  go_ret
  exact ⟨rfl, by repeat (first | exact Below.refl _ _ | apply below_alloc)⟩
theorem Code_calls (v : Value) (x : Option (Int × Int)) (w : World) (hg : Handle w) (hv : ErrV w v x) :
    Calls Tryd.prog 32 #[v] w fun e w' => e = .returned (.int .i64 (codeOf x)) ∧ Below w.heap.size w w' := by
  cases x with
  | none => obtain rfl : v = .nilIface := hv; exact code_nil w
  | some x =>
    obtain ⟨g, rfl, h⟩ := hv
    exact code_calls g x.2 w hg ((blk_cell h 1).trans rfl)
theorem Place_calls (v : Value) (x : Option (Int × Int)) (w : World) (hg : Handle w) (hv : ErrV w v x) :
    Calls Tryd.prog 30 #[v] w fun e w' => e = .returned (.int .i64 (placeOf x)) ∧ Below w.heap.size w w' := by
  cases x with
  | none => obtain rfl : v = .nilIface := hv; exact place_nil w
  | some x =>
    obtain ⟨g, rfl, h⟩ := hv
    exact place_calls g x.1 w hg ((blk_cell h 0).trans rfl)
def isB (x : Option (Int × Int)) (code at_ : Int) : Bool := decide (codeOf x = code) && decide (placeOf x = at_)
end Go.Proofs.YtiiolhnpnlmkjaaDoor.Tree
