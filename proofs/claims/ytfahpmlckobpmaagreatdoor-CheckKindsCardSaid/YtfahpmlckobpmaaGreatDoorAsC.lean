/- Part of the abstract run. -/
import Derived.Test.YtfahpmlckobpmaaGreatDoorAsA
set_option linter.unusedSimpArgs false
set_option linter.unusedVariables false
set_option linter.unusedSectionVars false
namespace Go.Proofs.YtfahpmlckobpmaaGreatDoor.Pi.As
open Go Go.RowKit Go.Extern.Stop Go.Stop Go.Extern
theorem unwrap195 (b o : Nat) (x : Value) (w : World) (h : w.cell? ⟨b, o + 1, none⟩ = some x) :
    Calls Go.Proofs.Tryz.prog 195 #[.pointer (some ⟨b, o, none⟩)] w fun e w' => e = .returned x ∧ w' = w := by
  go_enter Go.Proofs.Tryz.func195, Go.Proofs.Tryz.ntmps195
  go_wp2
  go_ret
  exact ⟨rfl, rfl⟩
end Go.Proofs.YtfahpmlckobpmaaGreatDoor.Pi.As
namespace Go.Proofs.YtfahpmlckobpmaaGreatDoor.Pi.As
open Go Go.RowKit Go.Extern.Stop Go.Stop Go.Extern
set_option maxRecDepth 4000 in
set_option maxHeartbeats 4000000 in
theorem as_AN (b o : Nat) (n : Int) (t : Addr) (old : Value) (w : World) (hg : w.cell? ⟨0, 0, none⟩ = some (.iface 260 (.agg #[.pointer (some ⟨2, 33, none⟩)]))) (ht0 : w.cell? t = some old) (hf0 : w.frozen? t = false) (hu : w.cell? ⟨b, o + 1, none⟩ = some (.iface 67 (.int .i64 n))) :
    Calls Go.Proofs.Tryz.prog 39 #[.iface 155 (.pointer (some ⟨b, o, none⟩)), .iface 154 (.pointer (some t))] w fun ev w' => ev = .returned (.bool true) ∧ w' = ((((w.alloc (.cells #[.pointer (some t)] 154)).alloc (.cells #[.pointer (some ⟨2, 154, none⟩), .pointer (some ⟨w.heap.size, 0, none⟩), .int .u64 150] 222)).alloc (.cells #[.pointer (some ⟨2, 154, none⟩), .pointer (some ⟨w.heap.size, 0, none⟩), .int .u64 150] 222)).alloc (.cells #[.int .i64 n] 67)).setCell t (.int .i64 n) := by
  have h71 := @run_callFunc_extern Go.Proofs.Tryz.prog 71 _ (fun args => ReflectliteValue.unpack (args.getD 0 (.tuple #[]))) Go.Proofs.Tryz.func71 (by kernel_rfl) (by kernel_rfl) (by kernel_rfl) (by kernel_rfl)
  have h72 := @run_callFunc_extern Go.Proofs.Tryz.prog 72 _ (ReflectliteValue.methodAny (ReflectliteValue.valueError "reflectlite.Value.Type" 0) (fun t _ _ _ => ReflectliteType.toType t)) Go.Proofs.Tryz.func72 (by kernel_rfl) (by kernel_rfl) (by kernel_rfl) (by kernel_rfl)
  have h73 := @run_callFunc_extern Go.Proofs.Tryz.prog 73 _ (ReflectliteValue.method (ReflectliteValue.valueError "reflectlite.Value.IsNil" 0) ReflectliteValue.isNil) Go.Proofs.Tryz.func73 (by kernel_rfl) (by kernel_rfl) (by kernel_rfl) (by kernel_rfl)
  have h187 := @run_callFunc_extern Go.Proofs.Tryz.prog 187 _ (ReflectliteType.abiMethod fun t => do pure (.int .u8 (← Rtype.kind t))) Go.Proofs.Tryz.func187 (by kernel_rfl) (by kernel_rfl) (by kernel_rfl) (by kernel_rfl)
  have h202 := @run_callFunc_extern Go.Proofs.Tryz.prog 202 _ (ReflectliteType.method ReflectliteType.elem) Go.Proofs.Tryz.func202 (by kernel_rfl) (by kernel_rfl) (by kernel_rfl) (by kernel_rfl)
  have h203 := @run_callFunc_extern Go.Proofs.Tryz.prog 203 _ (ReflectliteType.relation "Implements" ReflectliteType.implements_) Go.Proofs.Tryz.func203 (by kernel_rfl) (by kernel_rfl) (by kernel_rfl) (by kernel_rfl)
  have h102 := @run_callFunc_extern Go.Proofs.Tryz.prog 102 _ ReflectliteType.typeOf Go.Proofs.Tryz.func102 (by kernel_rfl) (by kernel_rfl) (by kernel_rfl) (by kernel_rfl)
  have h200 := @run_callFunc_extern Go.Proofs.Tryz.prog 200 _ (ReflectliteType.relation "AssignableTo" ReflectliteType.assignableTo) Go.Proofs.Tryz.func200 (by kernel_rfl) (by kernel_rfl) (by kernel_rfl) (by kernel_rfl)
  have h103 := @run_callFunc_extern Go.Proofs.Tryz.prog 103 _ (ReflectliteValue.method (ReflectliteValue.valueError "reflectlite.Value.Elem" 0) ReflectliteValue.elem) Go.Proofs.Tryz.func103 (by kernel_rfl) (by kernel_rfl) (by kernel_rfl) (by kernel_rfl)
  have h104 := @run_callFunc_extern Go.Proofs.Tryz.prog 104 _ ReflectliteValue.set Go.Proofs.Tryz.func104 (by kernel_rfl) (by kernel_rfl) (by kernel_rfl) (by kernel_rfl)
  have tO := typeOfE 67 (.inl rfl)
  have tA := typeOfE 155 (.inr rfl)
  have aA := assign155_67
  have t1 := ta155_265
  have t2 := ta155_268
  have mU := methodUnwrap
  have hbl : b < w.heap.size := by
    rcases Nat.lt_or_ge b w.heap.size with h | h
    · exact h
    · simp [World.cell?, Array.getElem?_eq_none h] at hu
  have hu3 : (World.cell? (((w.alloc (.cells #[.pointer (some t)] 154)).alloc (.cells #[.pointer (some ⟨2, 154, none⟩), .pointer (some ⟨w.heap.size, 0, none⟩), .int .u64 150] 222)).alloc (.cells #[.pointer (some ⟨2, 154, none⟩), .pointer (some ⟨w.heap.size, 0, none⟩), .int .u64 150] 222)) ⟨b, o + 1, none⟩) = some (.iface 67 (.int .i64 n)) := by
    rw [World.cell?_alloc_lt _ _ ⟨b, o + 1, none⟩ (by simp; omega), World.cell?_alloc_lt _ _ ⟨b, o + 1, none⟩ (by simp; omega), World.cell?_alloc_lt _ _ ⟨b, o + 1, none⟩ hbl]; exact hu
  have mA := methodAssignableTo
  have a67 := assign67
  have v67 := valueOf67
  have f6 := valueOfP 154 (.inl rfl)
  have f7 := typeP 154 (.inl rfl)
  have mK := methodKind
  have mE := methodElem
  have mI := methodImplements
  have k1 := kindP 154 (.inl rfl)
  have k2 := kindN
  have e1 := elem154
  have i1 := implementsE 67 (.inl rfl)
  have n8 := isNil154 ⟨w.heap.size, 0, none⟩ t ((w.alloc (.cells #[.pointer (some t)] 154)).alloc (.cells #[.pointer (some ⟨2, 154, none⟩), .pointer (some ⟨w.heap.size, 0, none⟩), .int .u64 150] 222)) (by simp)
  have hlt : 0 < w.heap.size := by
    rcases Nat.eq_zero_or_pos w.heap.size with h0 | h
    · simp [World.cell?, h0] at hg
    · exact h
  have hg2 : ((w.alloc (.cells #[.pointer (some t)] 154)).alloc (.cells #[.pointer (some ⟨2, 154, none⟩), .pointer (some ⟨w.heap.size, 0, none⟩), .int .u64 150] 222)).cell? ⟨0, 0, none⟩ = some (.iface 260 (.agg #[.pointer (some ⟨2, 33, none⟩)])) := by
    rw [World.cell?_alloc_lt _ _ ⟨0, 0, none⟩ (by simp), World.cell?_alloc_lt _ _ ⟨0, 0, none⟩ hlt]; exact hg
  have htl : t.block < w.heap.size := by
    rcases Nat.lt_or_ge t.block w.heap.size with h | h
    · exact h
    · simp [World.cell?, Array.getElem?_eq_none h] at ht0
  have el := elemV154 ⟨w.heap.size, 0, none⟩ t (((w.alloc (.cells #[.pointer (some t)] 154)).alloc (.cells #[.pointer (some ⟨2, 154, none⟩), .pointer (some ⟨w.heap.size, 0, none⟩), .int .u64 150] 222)).alloc (.cells #[.pointer (some ⟨2, 154, none⟩), .pointer (some ⟨w.heap.size, 0, none⟩), .int .u64 150] 222)) (by rw [World.cell?_alloc_lt _ _ ⟨w.heap.size, 0, none⟩ (by simp; omega)]; simp)
  have st := set67 t ⟨w.heap.size + 1 + 1 + 1, 0, none⟩ n old ((((w.alloc (.cells #[.pointer (some t)] 154)).alloc (.cells #[.pointer (some ⟨2, 154, none⟩), .pointer (some ⟨w.heap.size, 0, none⟩), .int .u64 150] 222)).alloc (.cells #[.pointer (some ⟨2, 154, none⟩), .pointer (some ⟨w.heap.size, 0, none⟩), .int .u64 150] 222)).alloc (.cells #[.int .i64 n] 67))
    (by rw [World.cell?_alloc_at _ _ _ _ (by simp)]; rfl)
    (by rw [World.cell?_alloc_lt _ _ t (by simp; omega), World.cell?_alloc_lt _ _ t (by simp; omega), World.cell?_alloc_lt _ _ t (by simp; omega), World.cell?_alloc_lt _ _ t htl]; exact ht0)
    (by rw [World.frozen?_alloc_old _ _ t (by simp; omega), World.frozen?_alloc_old _ _ t (by simp; omega), World.frozen?_alloc_old _ _ t (by simp; omega), World.frozen?_alloc_old _ _ t (Nat.ne_of_lt htl)]; exact hf0)
  go_enter Go.Proofs.Tryz.func39, Go.Proofs.Tryz.ntmps39
  go_wp2
  refine wp_loop_rounds 2 ?_
  rw [rounds_succ]
  go_wp2
  rw [rounds_succ]
  go_wp2
  go_ret
  exact ⟨rfl, rfl⟩
end Go.Proofs.YtfahpmlckobpmaaGreatDoor.Pi.As
