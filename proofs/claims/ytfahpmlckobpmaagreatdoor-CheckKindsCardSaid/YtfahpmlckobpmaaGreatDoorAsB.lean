/- Part of the abstract run. -/
import Derived.Test.YtfahpmlckobpmaaGreatDoorAsA
set_option linter.unusedSimpArgs false
set_option linter.unusedVariables false
set_option linter.unusedSectionVars false
namespace Go.Proofs.YtfahpmlckobpmaaGreatDoor.Pi.As
open Go Go.RowKit Go.Extern.Stop Go.Stop Go.Extern
theorem as_nil (t : Value) (w : World) :
    Calls Go.Proofs.Tryz.prog 39 #[.nilIface, t] w fun e w' => e = .returned (.bool false) ∧ w' = w := by
  go_enter Go.Proofs.Tryz.func39, Go.Proofs.Tryz.ntmps39
  go_wp2
  go_ret
  exact ⟨rfl, rfl⟩

set_option maxHeartbeats 4000000 in
theorem as_NN (n : Int) (t : Addr) (old : Value) (w : World) (hg : w.cell? ⟨0, 0, none⟩ = some (.iface 260 (.agg #[.pointer (some ⟨2, 33, none⟩)]))) (ht0 : w.cell? t = some old) (hf0 : w.frozen? t = false) :
    Calls Go.Proofs.Tryz.prog 39 #[.iface 67 (.int .i64 n), .iface 154 (.pointer (some t))] w fun ev w' => ev = .returned (.bool true) ∧ w' = ((((w.alloc (.cells #[.pointer (some t)] 154)).alloc (.cells #[.pointer (some ⟨2, 154, none⟩), .pointer (some ⟨w.heap.size, 0, none⟩), .int .u64 150] 222)).alloc (.cells #[.pointer (some ⟨2, 154, none⟩), .pointer (some ⟨w.heap.size, 0, none⟩), .int .u64 150] 222)).alloc (.cells #[.int .i64 n] 67)).setCell t (.int .i64 n) := by
  have h71 := @run_callFunc_extern Go.Proofs.Tryz.prog 71 _ (fun args => ReflectliteValue.unpack (args.getD 0 (.tuple #[]))) Go.Proofs.Tryz.func71 (by kernel_rfl) (by kernel_rfl) (by kernel_rfl) (by kernel_rfl)
  have h72 := @run_callFunc_extern Go.Proofs.Tryz.prog 72 _ (ReflectliteValue.methodAny (ReflectliteValue.valueError "reflectlite.Value.Type" 0) (fun t _ _ _ => ReflectliteType.toType t)) Go.Proofs.Tryz.func72 (by kernel_rfl) (by kernel_rfl) (by kernel_rfl) (by kernel_rfl)
  have h73 := @run_callFunc_extern Go.Proofs.Tryz.prog 73 _ (ReflectliteValue.method (ReflectliteValue.valueError "reflectlite.Value.IsNil" 0) ReflectliteValue.isNil) Go.Proofs.Tryz.func73 (by kernel_rfl) (by kernel_rfl) (by kernel_rfl) (by kernel_rfl)
  have h187 := @run_callFunc_extern Go.Proofs.Tryz.prog 187 _ (ReflectliteType.abiMethod fun t => do pure (.int .u8 (← Rtype.kind t))) Go.Proofs.Tryz.func187 (by kernel_rfl) (by kernel_rfl) (by kernel_rfl) (by kernel_rfl)
  have h202 := @run_callFunc_extern Go.Proofs.Tryz.prog 202 _ (ReflectliteType.method ReflectliteType.elem) Go.Proofs.Tryz.func202 (by kernel_rfl) (by kernel_rfl) (by kernel_rfl) (by kernel_rfl)
  have h203 := @run_callFunc_extern Go.Proofs.Tryz.prog 203 _ (ReflectliteType.relation "Implements" ReflectliteType.implements_) Go.Proofs.Tryz.func203 (by kernel_rfl) (by kernel_rfl) (by kernel_rfl) (by kernel_rfl)
  have h102 := @run_callFunc_extern Go.Proofs.Tryz.prog 102 _ ReflectliteType.typeOf Go.Proofs.Tryz.func102 (by kernel_rfl) (by kernel_rfl) (by kernel_rfl) (by kernel_rfl)
  have h200 := @run_callFunc_extern Go.Proofs.Tryz.prog 200 _ (ReflectliteType.relation "AssignableTo" ReflectliteType.assignableTo) Go.Proofs.Tryz.func200 (by kernel_rfl) (by kernel_rfl) (by kernel_rfl) (by kernel_rfl)
  have h103 := @run_callFunc_extern Go.Proofs.Tryz.prog 103 _ (ReflectliteValue.method (ReflectliteValue.valueError "reflectlite.Value.Elem" 0) ReflectliteValue.elem) Go.Proofs.Tryz.func103 (by kernel_rfl) (by kernel_rfl) (by kernel_rfl) (by kernel_rfl)
  have h104 := @run_callFunc_extern Go.Proofs.Tryz.prog 104 _ ReflectliteValue.set Go.Proofs.Tryz.func104 (by kernel_rfl) (by kernel_rfl) (by kernel_rfl) (by kernel_rfl)
  have tO := typeOfE 67 (.inl rfl)
  have mA := methodAssignableTo
  have a67 := assign67
  have v67 := valueOf67
  have f6 := valueOfP 154 (.inl rfl)
  have f7 := typeP 154 (.inl rfl)
  have mK := methodKind
  have mE := methodElem
  have mI := methodImplements
  have k1 := kindP 154 (.inl rfl)
  have k2 := kindN
  have e1 := elem154
  have i1 := implementsE 67 (.inl rfl)
  have n8 := isNil154 ⟨w.heap.size, 0, none⟩ t ((w.alloc (.cells #[.pointer (some t)] 154)).alloc (.cells #[.pointer (some ⟨2, 154, none⟩), .pointer (some ⟨w.heap.size, 0, none⟩), .int .u64 150] 222)) (by simp)
  have hlt : 0 < w.heap.size := by
    rcases Nat.eq_zero_or_pos w.heap.size with h0 | h
    · simp [World.cell?, h0] at hg
    · exact h
  have hg2 : ((w.alloc (.cells #[.pointer (some t)] 154)).alloc (.cells #[.pointer (some ⟨2, 154, none⟩), .pointer (some ⟨w.heap.size, 0, none⟩), .int .u64 150] 222)).cell? ⟨0, 0, none⟩ = some (.iface 260 (.agg #[.pointer (some ⟨2, 33, none⟩)])) := by
    rw [World.cell?_alloc_lt _ _ ⟨0, 0, none⟩ (by simp), World.cell?_alloc_lt _ _ ⟨0, 0, none⟩ hlt]; exact hg
  have htl : t.block < w.heap.size := by
    rcases Nat.lt_or_ge t.block w.heap.size with h | h
    · exact h
    · simp [World.cell?, Array.getElem?_eq_none h] at ht0
  have el := elemV154 ⟨w.heap.size, 0, none⟩ t (((w.alloc (.cells #[.pointer (some t)] 154)).alloc (.cells #[.pointer (some ⟨2, 154, none⟩), .pointer (some ⟨w.heap.size, 0, none⟩), .int .u64 150] 222)).alloc (.cells #[.pointer (some ⟨2, 154, none⟩), .pointer (some ⟨w.heap.size, 0, none⟩), .int .u64 150] 222)) (by rw [World.cell?_alloc_lt _ _ ⟨w.heap.size, 0, none⟩ (by simp; omega)]; simp)
  have st := set67 t ⟨w.heap.size + 1 + 1 + 1, 0, none⟩ n old ((((w.alloc (.cells #[.pointer (some t)] 154)).alloc (.cells #[.pointer (some ⟨2, 154, none⟩), .pointer (some ⟨w.heap.size, 0, none⟩), .int .u64 150] 222)).alloc (.cells #[.pointer (some ⟨2, 154, none⟩), .pointer (some ⟨w.heap.size, 0, none⟩), .int .u64 150] 222)).alloc (.cells #[.int .i64 n] 67))
    (by rw [World.cell?_alloc_at _ _ _ _ (by simp)]; rfl)
    (by rw [World.cell?_alloc_lt _ _ t (by simp; omega), World.cell?_alloc_lt _ _ t (by simp; omega), World.cell?_alloc_lt _ _ t (by simp; omega), World.cell?_alloc_lt _ _ t htl]; exact ht0)
    (by rw [World.frozen?_alloc_old _ _ t (by simp; omega), World.frozen?_alloc_old _ _ t (by simp; omega), World.frozen?_alloc_old _ _ t (by simp; omega), World.frozen?_alloc_old _ _ t (Nat.ne_of_lt htl)]; exact hf0)
  go_enter Go.Proofs.Tryz.func39, Go.Proofs.Tryz.ntmps39
  go_wp2
  refine wp_loop_rounds 1 ?_
  rw [rounds_succ]
  go_wp2
  go_ret
  exact ⟨rfl, rfl⟩
end Go.Proofs.YtfahpmlckobpmaaGreatDoor.Pi.As
namespace Go.Proofs.YtfahpmlckobpmaaGreatDoor.Pi.As
open Go Go.RowKit Go.Extern.Stop Go.Stop Go.Extern
set_option maxHeartbeats 4000000 in
theorem as_AA (e : Option Addr) (t : Addr) (old : Value) (w : World) (hg : w.cell? ⟨0, 0, none⟩ = some (.iface 260 (.agg #[.pointer (some ⟨2, 33, none⟩)]))) (ht0 : w.cell? t = some old) (hf0 : w.frozen? t = false) :
    Calls Go.Proofs.Tryz.prog 39 #[.iface 155 (.pointer e), .iface 156 (.pointer (some t))] w fun ev w' => ev = .returned (.bool true) ∧ w' = ((((w.alloc (.cells #[.pointer (some t)] 156)).alloc (.cells #[.pointer (some ⟨2, 156, none⟩), .pointer (some ⟨w.heap.size, 0, none⟩), .int .u64 150] 222)).alloc (.cells #[.pointer (some ⟨2, 156, none⟩), .pointer (some ⟨w.heap.size, 0, none⟩), .int .u64 150] 222)).alloc (.cells #[.pointer e] 155)).setCell t (.pointer e) := by
  have h71 := @run_callFunc_extern Go.Proofs.Tryz.prog 71 _ (fun args => ReflectliteValue.unpack (args.getD 0 (.tuple #[]))) Go.Proofs.Tryz.func71 (by kernel_rfl) (by kernel_rfl) (by kernel_rfl) (by kernel_rfl)
  have h72 := @run_callFunc_extern Go.Proofs.Tryz.prog 72 _ (ReflectliteValue.methodAny (ReflectliteValue.valueError "reflectlite.Value.Type" 0) (fun t _ _ _ => ReflectliteType.toType t)) Go.Proofs.Tryz.func72 (by kernel_rfl) (by kernel_rfl) (by kernel_rfl) (by kernel_rfl)
  have h73 := @run_callFunc_extern Go.Proofs.Tryz.prog 73 _ (ReflectliteValue.method (ReflectliteValue.valueError "reflectlite.Value.IsNil" 0) ReflectliteValue.isNil) Go.Proofs.Tryz.func73 (by kernel_rfl) (by kernel_rfl) (by kernel_rfl) (by kernel_rfl)
  have h187 := @run_callFunc_extern Go.Proofs.Tryz.prog 187 _ (ReflectliteType.abiMethod fun t => do pure (.int .u8 (← Rtype.kind t))) Go.Proofs.Tryz.func187 (by kernel_rfl) (by kernel_rfl) (by kernel_rfl) (by kernel_rfl)
  have h202 := @run_callFunc_extern Go.Proofs.Tryz.prog 202 _ (ReflectliteType.method ReflectliteType.elem) Go.Proofs.Tryz.func202 (by kernel_rfl) (by kernel_rfl) (by kernel_rfl) (by kernel_rfl)
  have h203 := @run_callFunc_extern Go.Proofs.Tryz.prog 203 _ (ReflectliteType.relation "Implements" ReflectliteType.implements_) Go.Proofs.Tryz.func203 (by kernel_rfl) (by kernel_rfl) (by kernel_rfl) (by kernel_rfl)
  have h102 := @run_callFunc_extern Go.Proofs.Tryz.prog 102 _ ReflectliteType.typeOf Go.Proofs.Tryz.func102 (by kernel_rfl) (by kernel_rfl) (by kernel_rfl) (by kernel_rfl)
  have h200 := @run_callFunc_extern Go.Proofs.Tryz.prog 200 _ (ReflectliteType.relation "AssignableTo" ReflectliteType.assignableTo) Go.Proofs.Tryz.func200 (by kernel_rfl) (by kernel_rfl) (by kernel_rfl) (by kernel_rfl)
  have h103 := @run_callFunc_extern Go.Proofs.Tryz.prog 103 _ (ReflectliteValue.method (ReflectliteValue.valueError "reflectlite.Value.Elem" 0) ReflectliteValue.elem) Go.Proofs.Tryz.func103 (by kernel_rfl) (by kernel_rfl) (by kernel_rfl) (by kernel_rfl)
  have h104 := @run_callFunc_extern Go.Proofs.Tryz.prog 104 _ ReflectliteValue.set Go.Proofs.Tryz.func104 (by kernel_rfl) (by kernel_rfl) (by kernel_rfl) (by kernel_rfl)
  have tO := typeOfE 155 (.inr rfl)
  have mA := methodAssignableTo
  have a67 := assign155
  have v67 := fun w => valueOf155 (.pointer e) w
  have f6 := valueOfP 156 (.inr rfl)
  have f7 := typeP 156 (.inr rfl)
  have mK := methodKind
  have mE := methodElem
  have mI := methodImplements
  have k1 := kindP 156 (.inr (.inl rfl))
  have k2 := kindP 155 (.inr (.inr rfl))
  have e1 := elem156
  have i1 := implementsE 155 (.inr rfl)
  have n8 := isNil156 ⟨w.heap.size, 0, none⟩ t ((w.alloc (.cells #[.pointer (some t)] 156)).alloc (.cells #[.pointer (some ⟨2, 156, none⟩), .pointer (some ⟨w.heap.size, 0, none⟩), .int .u64 150] 222)) (by simp)
  have hlt : 0 < w.heap.size := by
    rcases Nat.eq_zero_or_pos w.heap.size with h0 | h
    · simp [World.cell?, h0] at hg
    · exact h
  have hg2 : ((w.alloc (.cells #[.pointer (some t)] 156)).alloc (.cells #[.pointer (some ⟨2, 156, none⟩), .pointer (some ⟨w.heap.size, 0, none⟩), .int .u64 150] 222)).cell? ⟨0, 0, none⟩ = some (.iface 260 (.agg #[.pointer (some ⟨2, 33, none⟩)])) := by
    rw [World.cell?_alloc_lt _ _ ⟨0, 0, none⟩ (by simp), World.cell?_alloc_lt _ _ ⟨0, 0, none⟩ hlt]; exact hg
  have htl : t.block < w.heap.size := by
    rcases Nat.lt_or_ge t.block w.heap.size with h | h
    · exact h
    · simp [World.cell?, Array.getElem?_eq_none h] at ht0
  have el := elemV156 ⟨w.heap.size, 0, none⟩ t (((w.alloc (.cells #[.pointer (some t)] 156)).alloc (.cells #[.pointer (some ⟨2, 156, none⟩), .pointer (some ⟨w.heap.size, 0, none⟩), .int .u64 150] 222)).alloc (.cells #[.pointer (some ⟨2, 156, none⟩), .pointer (some ⟨w.heap.size, 0, none⟩), .int .u64 150] 222)) (by rw [World.cell?_alloc_lt _ _ ⟨w.heap.size, 0, none⟩ (by simp; omega)]; simp)
  have st := set155 t ⟨w.heap.size + 1 + 1 + 1, 0, none⟩ e old ((((w.alloc (.cells #[.pointer (some t)] 156)).alloc (.cells #[.pointer (some ⟨2, 156, none⟩), .pointer (some ⟨w.heap.size, 0, none⟩), .int .u64 150] 222)).alloc (.cells #[.pointer (some ⟨2, 156, none⟩), .pointer (some ⟨w.heap.size, 0, none⟩), .int .u64 150] 222)).alloc (.cells #[.pointer e] 155))
    (by rw [World.cell?_alloc_at _ _ _ _ (by simp)]; rfl)
    (by rw [World.cell?_alloc_lt _ _ t (by simp; omega), World.cell?_alloc_lt _ _ t (by simp; omega), World.cell?_alloc_lt _ _ t (by simp; omega), World.cell?_alloc_lt _ _ t htl]; exact ht0)
    (by rw [World.frozen?_alloc_old _ _ t (by simp; omega), World.frozen?_alloc_old _ _ t (by simp; omega), World.frozen?_alloc_old _ _ t (by simp; omega), World.frozen?_alloc_old _ _ t (Nat.ne_of_lt htl)]; exact hf0)
  go_enter Go.Proofs.Tryz.func39, Go.Proofs.Tryz.ntmps39
  go_wp2
  refine wp_loop_rounds 1 ?_
  rw [rounds_succ]
  go_wp2
  go_ret
  exact ⟨rfl, rfl⟩
end Go.Proofs.YtfahpmlckobpmaaGreatDoor.Pi.As
namespace Go.Proofs.YtfahpmlckobpmaaGreatDoor.Pi.As
open Go Go.RowKit Go.Extern.Stop Go.Stop Go.Extern
set_option maxHeartbeats 4000000 in
theorem as_NA (n : Int) (t : Addr) (old : Value) (w : World) (hg : w.cell? ⟨0, 0, none⟩ = some (.iface 260 (.agg #[.pointer (some ⟨2, 33, none⟩)]))) (ht0 : w.cell? t = some old) (hf0 : w.frozen? t = false) :
    Calls Go.Proofs.Tryz.prog 39 #[.iface 67 (.int .i64 n), .iface 156 (.pointer (some t))] w fun ev w' => ev = .returned (.bool false) ∧ w' = ((w.alloc (.cells #[.pointer (some t)] 156)).alloc (.cells #[.pointer (some ⟨2, 156, none⟩), .pointer (some ⟨w.heap.size, 0, none⟩), .int .u64 150] 222)).alloc (.cells #[.pointer (some ⟨2, 156, none⟩), .pointer (some ⟨w.heap.size, 0, none⟩), .int .u64 150] 222) := by
  have h71 := @run_callFunc_extern Go.Proofs.Tryz.prog 71 _ (fun args => ReflectliteValue.unpack (args.getD 0 (.tuple #[]))) Go.Proofs.Tryz.func71 (by kernel_rfl) (by kernel_rfl) (by kernel_rfl) (by kernel_rfl)
  have h72 := @run_callFunc_extern Go.Proofs.Tryz.prog 72 _ (ReflectliteValue.methodAny (ReflectliteValue.valueError "reflectlite.Value.Type" 0) (fun t _ _ _ => ReflectliteType.toType t)) Go.Proofs.Tryz.func72 (by kernel_rfl) (by kernel_rfl) (by kernel_rfl) (by kernel_rfl)
  have h73 := @run_callFunc_extern Go.Proofs.Tryz.prog 73 _ (ReflectliteValue.method (ReflectliteValue.valueError "reflectlite.Value.IsNil" 0) ReflectliteValue.isNil) Go.Proofs.Tryz.func73 (by kernel_rfl) (by kernel_rfl) (by kernel_rfl) (by kernel_rfl)
  have h187 := @run_callFunc_extern Go.Proofs.Tryz.prog 187 _ (ReflectliteType.abiMethod fun t => do pure (.int .u8 (← Rtype.kind t))) Go.Proofs.Tryz.func187 (by kernel_rfl) (by kernel_rfl) (by kernel_rfl) (by kernel_rfl)
  have h202 := @run_callFunc_extern Go.Proofs.Tryz.prog 202 _ (ReflectliteType.method ReflectliteType.elem) Go.Proofs.Tryz.func202 (by kernel_rfl) (by kernel_rfl) (by kernel_rfl) (by kernel_rfl)
  have h203 := @run_callFunc_extern Go.Proofs.Tryz.prog 203 _ (ReflectliteType.relation "Implements" ReflectliteType.implements_) Go.Proofs.Tryz.func203 (by kernel_rfl) (by kernel_rfl) (by kernel_rfl) (by kernel_rfl)
  have h102 := @run_callFunc_extern Go.Proofs.Tryz.prog 102 _ ReflectliteType.typeOf Go.Proofs.Tryz.func102 (by kernel_rfl) (by kernel_rfl) (by kernel_rfl) (by kernel_rfl)
  have h200 := @run_callFunc_extern Go.Proofs.Tryz.prog 200 _ (ReflectliteType.relation "AssignableTo" ReflectliteType.assignableTo) Go.Proofs.Tryz.func200 (by kernel_rfl) (by kernel_rfl) (by kernel_rfl) (by kernel_rfl)
  have h103 := @run_callFunc_extern Go.Proofs.Tryz.prog 103 _ (ReflectliteValue.method (ReflectliteValue.valueError "reflectlite.Value.Elem" 0) ReflectliteValue.elem) Go.Proofs.Tryz.func103 (by kernel_rfl) (by kernel_rfl) (by kernel_rfl) (by kernel_rfl)
  have h104 := @run_callFunc_extern Go.Proofs.Tryz.prog 104 _ ReflectliteValue.set Go.Proofs.Tryz.func104 (by kernel_rfl) (by kernel_rfl) (by kernel_rfl) (by kernel_rfl)
  have tO := typeOfE 67 (.inl rfl)
  have mA := methodAssignableTo
  have a67 := assign67_155
  have t1 := ta67_265
  have t2 := ta67_268
  have t3 := ta67_269
  have f6 := valueOfP 156 (.inr rfl)
  have f7 := typeP 156 (.inr rfl)
  have mK := methodKind
  have mE := methodElem
  have mI := methodImplements
  have k1 := kindP 156 (.inr (.inl rfl))
  have k2 := kindP 155 (.inr (.inr rfl))
  have e1 := elem156
  have i1 := implementsE 155 (.inr rfl)
  have n8 := isNil156 ⟨w.heap.size, 0, none⟩ t ((w.alloc (.cells #[.pointer (some t)] 156)).alloc (.cells #[.pointer (some ⟨2, 156, none⟩), .pointer (some ⟨w.heap.size, 0, none⟩), .int .u64 150] 222)) (by simp)
  have hlt : 0 < w.heap.size := by
    rcases Nat.eq_zero_or_pos w.heap.size with h0 | h
    · simp [World.cell?, h0] at hg
    · exact h
  have hg2 : ((w.alloc (.cells #[.pointer (some t)] 156)).alloc (.cells #[.pointer (some ⟨2, 156, none⟩), .pointer (some ⟨w.heap.size, 0, none⟩), .int .u64 150] 222)).cell? ⟨0, 0, none⟩ = some (.iface 260 (.agg #[.pointer (some ⟨2, 33, none⟩)])) := by
    rw [World.cell?_alloc_lt _ _ ⟨0, 0, none⟩ (by simp), World.cell?_alloc_lt _ _ ⟨0, 0, none⟩ hlt]; exact hg
  have htl : t.block < w.heap.size := by
    rcases Nat.lt_or_ge t.block w.heap.size with h | h
    · exact h
    · simp [World.cell?, Array.getElem?_eq_none h] at ht0
  go_enter Go.Proofs.Tryz.func39, Go.Proofs.Tryz.ntmps39
  go_wp2
  refine wp_loop_rounds 1 ?_
  rw [rounds_succ]
  go_wp2
  go_ret
  exact ⟨rfl, rfl⟩
end Go.Proofs.YtfahpmlckobpmaaGreatDoor.Pi.As
