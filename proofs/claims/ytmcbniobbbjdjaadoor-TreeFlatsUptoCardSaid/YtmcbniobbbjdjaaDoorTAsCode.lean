/- errors.As at a target of type *api.Errno, where the error is an *api.Fault that holds an Errno: what it answers and what it does to memory. No conditions but those told of the cells. -/
import Derived.Test.YtmcbniobbbjdjaaDoorTAs
namespace Go.Proofs.YtmcbniobbbjdjaaDoor
open Go.RowKit Go.Extern.Stop Go.Stop Go.Extern
theorem As_.no103 (v : Value) (xT : TypeId) (w : World) : (Instr.typeAssert (.iface 89 v) xT 121 true).run Tryd.prog w = .ok (.tuple #[.nilIface, .bool false]) w := run_typeAssert_lacksB Tryd.underlying121 (by kernel_rfl) (by kernel_rfl) v xT w
theorem As_.has106 (v : Value) (xT : TypeId) (w : World) : (Instr.typeAssert (.iface 89 v) xT 124 true).run Tryd.prog w = .ok (.tuple #[.iface 89 v, .bool true]) w := run_typeAssert_hasB Tryd.underlying124 (by kernel_rfl) v xT w
set_option maxHeartbeats 4000000 in
set_option maxRecDepth 100000 in
theorem as_code (g : Nat) (t : Addr) (c : Int) (old : Value) (w : World) (hg : w.cell? ⟨0, 0, none⟩ = some (.iface 116 (.agg #[.pointer (some ⟨1, 33, none⟩)]))) (he : w.cell? ⟨g, 1, none⟩ = some (.iface 49 (.int .i64 c))) (ht0 : w.cell? t = some old) (hf0 : w.frozen? t = false) :
    Calls Tryd.prog 43 #[.iface 89 (.pointer (some ⟨g, 0, none⟩)), .iface 88 (.pointer (some t))] w fun ev w' => ev = .returned (.bool true) ∧ w' = ((((w.alloc (.cells #[.pointer (some t)] 88)).alloc (.cells #[.pointer (some ⟨1, 88, none⟩), .pointer (some ⟨w.heap.size, 0, none⟩), .int .u64 150] 104)).alloc (.cells #[.pointer (some ⟨1, 88, none⟩), .pointer (some ⟨w.heap.size, 0, none⟩), .int .u64 150] 104)).alloc (.cells #[.int .i64 c] 49)).setCell t (.int .i64 c) := by
  have h6 := @run_callFunc_extern Tryd.prog 53 _ (fun args => ReflectliteValue.unpack (args.getD 0 (.tuple #[]))) Tryd.func53 (by kernel_rfl) (by kernel_rfl) (by kernel_rfl) (by kernel_rfl)
  have h7 := @run_callFunc_extern Tryd.prog 54 _ (ReflectliteValue.methodAny (ReflectliteValue.valueError "reflectlite.Value.Type" 0) (fun t _ _ _ => ReflectliteType.toType t)) Tryd.func54 (by kernel_rfl) (by kernel_rfl) (by kernel_rfl) (by kernel_rfl)
  have h8 := @run_callFunc_extern Tryd.prog 55 _ (ReflectliteValue.method (ReflectliteValue.valueError "reflectlite.Value.IsNil" 0) ReflectliteValue.isNil) Tryd.func55 (by kernel_rfl) (by kernel_rfl) (by kernel_rfl) (by kernel_rfl)
  have h27 := @run_callFunc_extern Tryd.prog 76 _ (ReflectliteType.abiMethod fun t => do pure (.int .u8 (← Rtype.kind t))) Tryd.func76 (by kernel_rfl) (by kernel_rfl) (by kernel_rfl) (by kernel_rfl)
  have h37 := @run_callFunc_extern Tryd.prog 88 _ (ReflectliteType.method ReflectliteType.elem) Tryd.func88 (by kernel_rfl) (by kernel_rfl) (by kernel_rfl) (by kernel_rfl)
  have h38 := @run_callFunc_extern Tryd.prog 89 _ (ReflectliteType.relation "Implements" ReflectliteType.implements_) Tryd.func89 (by kernel_rfl) (by kernel_rfl) (by kernel_rfl) (by kernel_rfl)
  have h10 := @run_callFunc_extern Tryd.prog 58 _ ReflectliteType.typeOf Tryd.func58 (by kernel_rfl) (by kernel_rfl) (by kernel_rfl) (by kernel_rfl)
  have h35 := @run_callFunc_extern Tryd.prog 86 _ (ReflectliteType.relation "AssignableTo" ReflectliteType.assignableTo) Tryd.func86 (by kernel_rfl) (by kernel_rfl) (by kernel_rfl) (by kernel_rfl)
  have h11 := @run_callFunc_extern Tryd.prog 59 _ (ReflectliteValue.method (ReflectliteValue.valueError "reflectlite.Value.Elem" 0) ReflectliteValue.elem) Tryd.func59 (by kernel_rfl) (by kernel_rfl) (by kernel_rfl) (by kernel_rfl)
  have h12 := @run_callFunc_extern Tryd.prog 60 _ ReflectliteValue.set Tryd.func60 (by kernel_rfl) (by kernel_rfl) (by kernel_rfl) (by kernel_rfl)
  have tO := As_.typeOf78
  have tO2 := As_.typeOf65
  have a65 := As_.assignable65
  have aNo := As_.assignable78no
  have v65 := As_.valueOf65
  have k65 := As_.kind65
  have i65 := As_.implements65
  have mU := As_.methodUnwrap
  have n103 := As_.no103
  have y106 := As_.has106
  have mA := As_.methodAssignableTo
  have a25 := As_.assignable78
  have v25 := As_.valueOf78
  have f6 := As_.valueOf77
  have f7 := As_.type77
  have mK := As_.methodKind
  have mE := As_.methodElem
  have mI := As_.methodImplements
  have k27 := As_.kind77
  have k25 := As_.kind78
  have e27 := As_.elem77
  have i25 := As_.implements78
  have n8 := As_.isNil77 ⟨w.heap.size, 0, none⟩ t ((w.alloc (.cells #[.pointer (some t)] 88)).alloc (.cells #[.pointer (some ⟨1, 88, none⟩), .pointer (some ⟨w.heap.size, 0, none⟩), .int .u64 150] 104)) (by simp)
  have hlt : 0 < w.heap.size := by
    rcases Nat.eq_zero_or_pos w.heap.size with h0 | h
    · simp [World.cell?, h0] at hg
    · exact h
  have hg2 : ((w.alloc (.cells #[.pointer (some t)] 88)).alloc (.cells #[.pointer (some ⟨1, 88, none⟩), .pointer (some ⟨w.heap.size, 0, none⟩), .int .u64 150] 104)).cell? ⟨0, 0, none⟩ = some (.iface 116 (.agg #[.pointer (some ⟨1, 33, none⟩)])) := by
    rw [World.cell?_alloc_lt _ _ ⟨0, 0, none⟩ (by simp), World.cell?_alloc_lt _ _ ⟨0, 0, none⟩ hlt]; exact hg
  have htl : t.block < w.heap.size := by
    rcases Nat.lt_or_ge t.block w.heap.size with h | h
    · exact h
    · simp [World.cell?, Array.getElem?_eq_none h] at ht0
  have el := As_.elemV77 ⟨w.heap.size, 0, none⟩ t (((w.alloc (.cells #[.pointer (some t)] 88)).alloc (.cells #[.pointer (some ⟨1, 88, none⟩), .pointer (some ⟨w.heap.size, 0, none⟩), .int .u64 150] 104)).alloc (.cells #[.pointer (some ⟨1, 88, none⟩), .pointer (some ⟨w.heap.size, 0, none⟩), .int .u64 150] 104)) (by rw [World.cell?_alloc_lt _ _ ⟨w.heap.size, 0, none⟩ (by simp; omega)]; simp)
  have st := As_.set65 t ⟨w.heap.size + 1 + 1 + 1, 0, none⟩ c old ((((w.alloc (.cells #[.pointer (some t)] 88)).alloc (.cells #[.pointer (some ⟨1, 88, none⟩), .pointer (some ⟨w.heap.size, 0, none⟩), .int .u64 150] 104)).alloc (.cells #[.pointer (some ⟨1, 88, none⟩), .pointer (some ⟨w.heap.size, 0, none⟩), .int .u64 150] 104)).alloc (.cells #[.int .i64 c] 49))
    (by rw [World.cell?_alloc_at _ _ _ _ (by simp)]; rfl)
    (by rw [World.cell?_alloc_lt _ _ t (by simp; omega), World.cell?_alloc_lt _ _ t (by simp; omega), World.cell?_alloc_lt _ _ t (by simp; omega), World.cell?_alloc_lt _ _ t htl]; exact ht0)
    (by rw [World.frozen?_alloc_old _ _ t (by simp; omega), World.frozen?_alloc_old _ _ t (by simp; omega), World.frozen?_alloc_old _ _ t (by simp; omega), World.frozen?_alloc_old _ _ t (Nat.ne_of_lt htl)]; exact hf0)
  have hgl : g < w.heap.size := by
    rcases Nat.lt_or_ge g w.heap.size with h | h
    · exact h
    · simp [World.cell?, Array.getElem?_eq_none h] at he
  have he2 : (((w.alloc (.cells #[.pointer (some t)] 88)).alloc (.cells #[.pointer (some ⟨1, 88, none⟩), .pointer (some ⟨w.heap.size, 0, none⟩), .int .u64 150] 104)).alloc (.cells #[.pointer (some ⟨1, 88, none⟩), .pointer (some ⟨w.heap.size, 0, none⟩), .int .u64 150] 104)).cell? ⟨g, 1, none⟩ = some (.iface 49 (.int .i64 c)) := by
    rw [World.cell?_alloc_lt _ _ ⟨g, 1, none⟩ (by simp; omega), World.cell?_alloc_lt _ _ ⟨g, 1, none⟩ (by simp; omega), World.cell?_alloc_lt _ _ ⟨g, 1, none⟩ hgl]; exact he
  go_enter Tryd.func43, Tryd.ntmps43
  go_wp2
  refine wp_loop_rounds 2 ?_
  rw [rounds_succ]
  go_wp2
  rw [rounds_succ]
  go_wp2
  go_ret
  exact ⟨rfl, rfl⟩

end Go.Proofs.YtmcbniobbbjdjaaDoor
