/-
  errors.As at this program's two kinds of errors: the entries' facts.
-/
import Derived.Test.YtfahpmlckobpmaaGreatDoorProg
import Derived.WalkKit
import Derived.LaidEql
import Derived.Stop.Asserts
import Derived.RowKitTokens
set_option linter.unusedSimpArgs false
set_option linter.unusedVariables false
set_option linter.unusedSectionVars false
namespace Go.Proofs.YtfahpmlckobpmaaGreatDoor.Pi.As
open Go Go.RowKit Go.Extern.Stop Go.Stop Go.Extern
theorem valueOfP (T : Nat) (hT : T = 154 ∨ T = 156) (t : Addr) (w : World) : (ReflectliteValue.unpack (.iface T (.pointer (some t)))).run Go.Proofs.Tryz.prog w
    = .ok (.agg #[.pointer (some ⟨2, T, none⟩), .pointer (some ⟨w.heap.size, 0, none⟩), .int .u64 150]) (w.alloc (.cells #[.pointer (some t)] T)) := by rcases hT with rfl | rfl <;> kernel_rfl
theorem typeP (T : Nat) (hT : T = 154 ∨ T = 156) (a : Addr) (w : World) : (ReflectliteValue.methodAny (ReflectliteValue.valueError "reflectlite.Value.Type" 0) (fun t _ _ _ => ReflectliteType.toType t) #[.agg #[.pointer (some ⟨2, T, none⟩), .pointer (some a), .int .u64 150]]).run Go.Proofs.Tryz.prog w
    = .ok (.iface 260 (.agg #[.pointer (some ⟨2, T, none⟩)])) w := by rcases hT with rfl | rfl <;> kernel_rfl
theorem methodKind (h : Value) (w : World) : (Go.method 460 260 (.agg #[h]) "Kind").run Go.Proofs.Tryz.prog w = .ok (187, h) w := by kernel_rfl
theorem kindP (T : Nat) (hT : T = 154 ∨ T = 156 ∨ T = 155) (w : World) : ((ReflectliteType.abiMethod fun t => (fun a : Nat => Value.int IntKind.u8 (a : Int)) <$> Rtype.kind t) #[.pointer (some ⟨2, T, none⟩)]).run Go.Proofs.Tryz.prog w = .ok (.int .u8 22) w := by rcases hT with rfl | rfl | rfl <;> kernel_rfl
theorem kindN (w : World) : ((ReflectliteType.abiMethod fun t => (fun a : Nat => Value.int IntKind.u8 (a : Int)) <$> Rtype.kind t) #[.pointer (some ⟨2, 67, none⟩)]).run Go.Proofs.Tryz.prog w = .ok (.int .u8 2) w := by kernel_rfl
theorem methodElem (h : Value) (w : World) : (Go.method 460 260 (.agg #[h]) "Elem").run Go.Proofs.Tryz.prog w = .ok (202, .agg #[h]) w := by kernel_rfl
theorem methodImplements (h : Value) (w : World) : (Go.method 460 260 (.agg #[h]) "Implements").run Go.Proofs.Tryz.prog w = .ok (203, .agg #[h]) w := by kernel_rfl
theorem methodAssignableTo (h : Value) (w : World) : (Go.method 460 260 (.agg #[h]) "AssignableTo").run Go.Proofs.Tryz.prog w = .ok (200, .agg #[h]) w := by kernel_rfl
theorem elem154 (w : World) : (ReflectliteType.method ReflectliteType.elem #[.agg #[.pointer (some ⟨2, 154, none⟩)]]).run Go.Proofs.Tryz.prog w = .ok (.iface 260 (.agg #[.pointer (some ⟨2, 67, none⟩)])) w := by kernel_rfl
theorem elem156 (w : World) : (ReflectliteType.method ReflectliteType.elem #[.agg #[.pointer (some ⟨2, 156, none⟩)]]).run Go.Proofs.Tryz.prog w = .ok (.iface 260 (.agg #[.pointer (some ⟨2, 155, none⟩)])) w := by kernel_rfl
theorem implementsE (T : Nat) (hT : T = 67 ∨ T = 155) (w : World) : (ReflectliteType.relation "Implements" ReflectliteType.implements_ #[.agg #[.pointer (some ⟨2, T, none⟩)], .iface 260 (.agg #[.pointer (some ⟨2, 33, none⟩)])]).run Go.Proofs.Tryz.prog w = .ok (.bool true) w := by rcases hT with rfl | rfl <;> kernel_rfl
theorem typeOfE (T : Nat) (hT : T = 67 ∨ T = 155) (v : Value) (w : World) : (ReflectliteType.typeOf #[.iface T v]).run Go.Proofs.Tryz.prog w = .ok (.iface 260 (.agg #[.pointer (some ⟨2, T, none⟩)])) w := by rcases hT with rfl | rfl <;> kernel_rfl
theorem assign67 (w : World) : (ReflectliteType.relation "AssignableTo" ReflectliteType.assignableTo #[.agg #[.pointer (some ⟨2, 67, none⟩)], .iface 260 (.agg #[.pointer (some ⟨2, 67, none⟩)])]).run Go.Proofs.Tryz.prog w = .ok (.bool true) w := by kernel_rfl
theorem assign155 (w : World) : (ReflectliteType.relation "AssignableTo" ReflectliteType.assignableTo #[.agg #[.pointer (some ⟨2, 155, none⟩)], .iface 260 (.agg #[.pointer (some ⟨2, 155, none⟩)])]).run Go.Proofs.Tryz.prog w = .ok (.bool true) w := by kernel_rfl
theorem assign67_155 (w : World) : (ReflectliteType.relation "AssignableTo" ReflectliteType.assignableTo #[.agg #[.pointer (some ⟨2, 67, none⟩)], .iface 260 (.agg #[.pointer (some ⟨2, 155, none⟩)])]).run Go.Proofs.Tryz.prog w = .ok (.bool false) w := by kernel_rfl
theorem assign155_67 (w : World) : (ReflectliteType.relation "AssignableTo" ReflectliteType.assignableTo #[.agg #[.pointer (some ⟨2, 155, none⟩)], .iface 260 (.agg #[.pointer (some ⟨2, 67, none⟩)])]).run Go.Proofs.Tryz.prog w = .ok (.bool false) w := by kernel_rfl
theorem valueOf155 (e : Value) (w : World) : (ReflectliteValue.unpack (.iface 155 e)).run Go.Proofs.Tryz.prog w
    = .ok (.agg #[.pointer (some ⟨2, 155, none⟩), .pointer (some ⟨w.heap.size, 0, none⟩), .int .u64 150]) (w.alloc (.cells e.cells 155)) := by kernel_rfl
theorem valueOf67 (n : Int) (w : World) : (ReflectliteValue.unpack (.iface 67 (.int .i64 n))).run Go.Proofs.Tryz.prog w
    = .ok (.agg #[.pointer (some ⟨2, 67, none⟩), .pointer (some ⟨w.heap.size, 0, none⟩), .int .u64 130]) (w.alloc (.cells #[.int .i64 n] 67)) := by kernel_rfl
end Go.Proofs.YtfahpmlckobpmaaGreatDoor.Pi.As
/-
  errors.As at this program's two kinds of errors: the entries that read and write memory.
-/
namespace Go.Proofs.YtfahpmlckobpmaaGreatDoor.Pi.As
open Go Go.RowKit Go.Extern.Stop Go.Stop Go.Extern
theorem rlm (z : Sem Value) (f : TypeId → Addr → Nat → Nat → Sem Value) (v : Value) :
    ReflectliteValue.method z f #[v] = (do match ← ReflectliteValue.parts v with | none => z | some (t, a, fl) => f t a fl (fl % 32)) := rfl
theorem partsP (T : Nat) (hT : T = 154 ∨ T = 156) (a : Addr) (w : World) : (ReflectliteValue.parts (.agg #[.pointer (some ⟨2, T, none⟩), .pointer (some a), .int .u64 150])).run Go.Proofs.Tryz.prog w = .ok (some (T, a, 150)) w := by rcases hT with rfl | rfl <;> kernel_rfl
theorem isNil154 (a p : Addr) (W : World) (ha : W.cell? a = some (.pointer (some p))) :
    (ReflectliteValue.method (ReflectliteValue.valueError "reflectlite.Value.IsNil" 0) ReflectliteValue.isNil #[.agg #[.pointer (some ⟨2, 154, none⟩), .pointer (some a), .int .u64 150]]).run Go.Proofs.Tryz.prog W = .ok (.bool false) W := by
  rw [rlm]
  simp only [Sem.run_bind, partsP 154 (.inl rfl), Result.andThen]
  simp [ReflectliteValue.isNil, loadVar, isAgg, underlying, Go.Proofs.Tryz.underlying154, ha, Result.andThen]
theorem isNil156 (a p : Addr) (W : World) (ha : W.cell? a = some (.pointer (some p))) :
    (ReflectliteValue.method (ReflectliteValue.valueError "reflectlite.Value.IsNil" 0) ReflectliteValue.isNil #[.agg #[.pointer (some ⟨2, 156, none⟩), .pointer (some a), .int .u64 150]]).run Go.Proofs.Tryz.prog W = .ok (.bool false) W := by
  rw [rlm]
  simp only [Sem.run_bind, partsP 156 (.inr rfl), Result.andThen]
  simp [ReflectliteValue.isNil, loadVar, isAgg, underlying, Go.Proofs.Tryz.underlying156, ha, Result.andThen]
theorem elemOf154 (w : World) : (Rtype.elem? 154).run Go.Proofs.Tryz.prog w = .ok (some 67) w := by kernel_rfl
theorem elemOf156 (w : World) : (Rtype.elem? 156).run Go.Proofs.Tryz.prog w = .ok (some 155) w := by kernel_rfl
theorem mk67 (p : Addr) (w : World) : (ReflectliteValue.mk 67 p ReflectliteValue.flagAddr).run Go.Proofs.Tryz.prog w = .ok (.agg #[.pointer (some ⟨2, 67, none⟩), .pointer (some p), .int .u64 386]) w := by kernel_rfl
theorem mk155 (p : Addr) (w : World) : (ReflectliteValue.mk 155 p ReflectliteValue.flagAddr).run Go.Proofs.Tryz.prog w = .ok (.agg #[.pointer (some ⟨2, 155, none⟩), .pointer (some p), .int .u64 406]) w := by kernel_rfl
theorem elemV154 (a p : Addr) (W : World) (ha : W.cell? a = some (.pointer (some p))) :
    (ReflectliteValue.method (ReflectliteValue.valueError "reflectlite.Value.Elem" 0) ReflectliteValue.elem #[.agg #[.pointer (some ⟨2, 154, none⟩), .pointer (some a), .int .u64 150]]).run Go.Proofs.Tryz.prog W
      = .ok (.agg #[.pointer (some ⟨2, 67, none⟩), .pointer (some p), .int .u64 386]) W := by
  rw [rlm]
  simp only [Sem.run_bind, partsP 154 (.inl rfl), Result.andThen]
  simp [ReflectliteValue.elem, loadVar, isAgg, underlying, Go.Proofs.Tryz.underlying154, ha, Result.andThen, elemOf154, mk67]
theorem elemV156 (a p : Addr) (W : World) (ha : W.cell? a = some (.pointer (some p))) :
    (ReflectliteValue.method (ReflectliteValue.valueError "reflectlite.Value.Elem" 0) ReflectliteValue.elem #[.agg #[.pointer (some ⟨2, 156, none⟩), .pointer (some a), .int .u64 150]]).run Go.Proofs.Tryz.prog W
      = .ok (.agg #[.pointer (some ⟨2, 155, none⟩), .pointer (some p), .int .u64 406]) W := by
  rw [rlm]
  simp only [Sem.run_bind, partsP 156 (.inr rfl), Result.andThen]
  simp [ReflectliteValue.elem, loadVar, isAgg, underlying, Go.Proofs.Tryz.underlying156, ha, Result.andThen, elemOf156, mk155]
theorem rls (v x : Value) : ReflectliteValue.set #[v, x] = (do
    let (some (dst, a, fl), some (src, b, _)) := (← ReflectliteValue.parts v, ← ReflectliteValue.parts x)
      | unsupported (.noEntry "extern/(internal/reflectlite.Value).Set.zeroValue")
    if fl / ReflectliteValue.flagAddr % 2 == 0 then unsupported (.noEntry "extern/(internal/reflectlite.Value).Set.unaddressable")
    let val ← loadVar src b
    if ← Rtype.directlyAssignable dst src then storeVar dst a val
    else if ← Rtype.implements dst src then
      if (← Rtype.kind src) == 20 then
        match val with
        | .nilIface => unsupported (.noEntry "extern/reflectlite: a nil value of one interface type handed on as a value of another")
        | _ => storeVar dst a val
      else storeVar dst a (.iface src val)
    else panicString ("reflectlite.Set: value of type " ++ (← Rtype.spelt src) ++ " is not assignable to type " ++ (← Rtype.spelt dst))
    pure (.tuple #[])) := rfl
theorem parts67a (a : Addr) (w : World) : (ReflectliteValue.parts (.agg #[.pointer (some ⟨2, 67, none⟩), .pointer (some a), .int .u64 386])).run Go.Proofs.Tryz.prog w = .ok (some (67, a, 386)) w := by kernel_rfl
theorem parts67 (a : Addr) (w : World) : (ReflectliteValue.parts (.agg #[.pointer (some ⟨2, 67, none⟩), .pointer (some a), .int .u64 130])).run Go.Proofs.Tryz.prog w = .ok (some (67, a, 130)) w := by kernel_rfl
theorem parts155a (a : Addr) (w : World) : (ReflectliteValue.parts (.agg #[.pointer (some ⟨2, 155, none⟩), .pointer (some a), .int .u64 406])).run Go.Proofs.Tryz.prog w = .ok (some (155, a, 406)) w := by kernel_rfl
theorem parts155 (a : Addr) (w : World) : (ReflectliteValue.parts (.agg #[.pointer (some ⟨2, 155, none⟩), .pointer (some a), .int .u64 150])).run Go.Proofs.Tryz.prog w = .ok (some (155, a, 150)) w := by kernel_rfl
theorem direct67 (w : World) : (Rtype.directlyAssignable 67 67).run Go.Proofs.Tryz.prog w = .ok true w := by kernel_rfl
theorem direct155 (w : World) : (Rtype.directlyAssignable 155 155).run Go.Proofs.Tryz.prog w = .ok true w := by kernel_rfl
theorem set67 (ta b : Addr) (n : Int) (old : Value) (W : World) (hb : W.cell? b = some (.int .i64 n)) (ht : W.cell? ta = some old) (hf : W.frozen? ta = false) :
    (ReflectliteValue.set #[.agg #[.pointer (some ⟨2, 67, none⟩), .pointer (some ta), .int .u64 386], .agg #[.pointer (some ⟨2, 67, none⟩), .pointer (some b), .int .u64 130]]).run Go.Proofs.Tryz.prog W
      = .ok (.tuple #[]) (W.setCell ta (.int .i64 n)) := by
  rw [rls]
  simp only [Sem.run_bind, parts67a, parts67, Result.andThen]
  simp [ReflectliteValue.flagAddr, loadVar, isAgg, underlying, Go.Proofs.Tryz.underlying67, hb, Result.andThen, direct67, storeVar, Value.cells, storeCells, Addr.add]
  rw [run_store Go.Proofs.Tryz.prog W ta _ _ (by rfl)]
  simp [ht, hf]
theorem set155 (ta b : Addr) (e : Option Addr) (old : Value) (W : World) (hb : W.cell? b = some (.pointer e)) (ht : W.cell? ta = some old) (hf : W.frozen? ta = false) :
    (ReflectliteValue.set #[.agg #[.pointer (some ⟨2, 155, none⟩), .pointer (some ta), .int .u64 406], .agg #[.pointer (some ⟨2, 155, none⟩), .pointer (some b), .int .u64 150]]).run Go.Proofs.Tryz.prog W
      = .ok (.tuple #[]) (W.setCell ta (.pointer e)) := by
  rw [rls]
  simp only [Sem.run_bind, parts155a, parts155, Result.andThen]
  simp [ReflectliteValue.flagAddr, loadVar, isAgg, underlying, Go.Proofs.Tryz.underlying155, hb, Result.andThen, direct155, storeVar, Value.cells, storeCells, Addr.add]
  rw [run_store Go.Proofs.Tryz.prog W ta _ _ (by rfl)]
  simp [ht, hf]
end Go.Proofs.YtfahpmlckobpmaaGreatDoor.Pi.As
namespace Go.Proofs.YtfahpmlckobpmaaGreatDoor.Pi.As
open Go Go.RowKit Go.Extern.Stop Go.Stop Go.Extern
theorem ta67_265 (v : Value) (w : World) : (Instr.typeAssert (.iface 67 v) 33 265 true).run Go.Proofs.Tryz.prog w = .ok (.tuple #[.nilIface, .bool false]) w := run_typeAssert_lacksB Go.Proofs.Tryz.underlying265 (by kernel_rfl) (by kernel_rfl) v 33 w
theorem ta67_268 (v : Value) (w : World) : (Instr.typeAssert (.iface 67 v) 33 268 true).run Go.Proofs.Tryz.prog w = .ok (.tuple #[.nilIface, .bool false]) w := run_typeAssert_lacksB Go.Proofs.Tryz.underlying268 (by kernel_rfl) (by kernel_rfl) v 33 w
theorem ta67_269 (v : Value) (w : World) : (Instr.typeAssert (.iface 67 v) 33 269 true).run Go.Proofs.Tryz.prog w = .ok (.tuple #[.nilIface, .bool false]) w := run_typeAssert_lacksB Go.Proofs.Tryz.underlying269 (by kernel_rfl) (by kernel_rfl) v 33 w
theorem ta155_265 (v : Value) (w : World) : (Instr.typeAssert (.iface 155 v) 33 265 true).run Go.Proofs.Tryz.prog w = .ok (.tuple #[.nilIface, .bool false]) w := run_typeAssert_lacksB Go.Proofs.Tryz.underlying265 (by kernel_rfl) (by kernel_rfl) v 33 w
theorem ta155_268 (v : Value) (w : World) : (Instr.typeAssert (.iface 155 v) 33 268 true).run Go.Proofs.Tryz.prog w = .ok (.tuple #[.iface 155 v, .bool true]) w := by kernel_rfl
theorem methodUnwrap (v : Value) (w : World) : (Go.method 460 155 v "Unwrap").run Go.Proofs.Tryz.prog w = .ok (195, v) w := by kernel_rfl
end Go.Proofs.YtfahpmlckobpmaaGreatDoor.Pi.As
