/-
  CheckKinds: the given statement, and its card.
-/
import Derived.Test.YtfahpmlckobpmaaGreatDoorLawA
import Derived.Test.YtfahpmlckobpmaaGreatDoorEnvX
import Derived.Test.YtfahpmlckobpmaaGreatDoorRowX
import Derived.Test.YtfahpmlckobpmaaGreatDoorCards
import Derived.Test.YtfahpmlckobpmaaGreatDoorTie
import Derived.Deep.DeepHandedRow
import Derived.LaidHandle
import Derived.LaidLaws
set_option linter.unusedSimpArgs false
set_option linter.unusedVariables false
set_option linter.unusedSectionVars false
namespace Go.Proofs.YtfahpmlckobpmaaGreatDoor.Pi
open Go Go.ChangeShapes Go.WideShapes Go.ChangeAt Go.RowKit

theorem own : ownKnob Go.Proofs.Tryz.prog.godebug = none := by kernel_rfl
theorem gErr : Go.Proofs.Tryz.prog.globalNamed "errors.errorType" = some 0 := by kernel_rfl
theorem gRt : (Go.Proofs.Tryz.prog.cutTypes.find? (·.1 == "internal/reflectlite.rtype")).map (·.2) = some 260 := by kernel_rfl
theorem nTypes : Go.Proofs.Tryz.prog.types.size = 360 := by kernel_rfl
theorem oneRow : ((List.range 360).filter fun t => Go.Proofs.Tryz.prog.rowNamed t [101, 114, 114, 111, 114]) = [33] := by kernel_rfl
theorem laidOut : laidOutB Go.Proofs.Tryz.prog = true := by kernel_rfl
theorem mapsRow : mapsRowed Go.Proofs.Tryz.prog = true := by kernel_rfl
theorem sliceFull : ∀ t e, t < Go.Proofs.Tryz.prog.types.size → Go.Proofs.Tryz.prog.underlying t = some (.slice e) → 0 < Go.Proofs.Tryz.prog.cellsOf e := slices_full_of _ (by kernel_rfl)
theorem uBool : Go.Proofs.Tryz.prog.underlying 4 = some .bool := by kernel_rfl

/-- what the row's list gives: the variable's one cell -/
theorem handle_of_laid {W : World} (h : laidMetH Go.Proofs.Tryz.prog [("errors.errorType", Go.Proofs.YtfahpmlckobpmaaGreatDoor.Rows.laid_errors_errorType)] W) : W.cell? ⟨0, 0, none⟩ = some (.iface 260 (.agg #[.pointer (some ⟨2, 33, none⟩)])) := by
  have h' : laidMet Go.Proofs.Tryz.prog [] W ∧ handlesMet Go.Proofs.Tryz.prog [("errors.errorType", Go.Proofs.YtfahpmlckobpmaaGreatDoor.Rows.laid_errors_errorType)] W := h
  obtain ⟨name, u, ty, e1, e2, e3, e4, e5⟩ := h'.2 _ (List.mem_singleton.2 rfl)
  have en : name = [101, 114, 114, 111, 114] := (Option.some.inj e1).symm
  subst en
  obtain rfl := Option.some.inj (gRt.symm.trans e2)
  have hm : ty ∈ (List.range 360).filter fun t => Go.Proofs.Tryz.prog.rowNamed t [101, 114, 114, 111, 114] := List.mem_filter.2 ⟨List.mem_range.2 (by rw [← nTypes]; exact e3), e4⟩
  rw [oneRow] at hm
  obtain rfl := List.mem_singleton.1 hm
  have hh : typeHandle Go.Proofs.Tryz.prog 33 = .pointer (some ⟨2, 33, none⟩) := by kernel_rfl
  rw [hh] at e5
  simpa using World.var?_cell gErr e5 0

/-- a world that meets the condition -/
noncomputable def laidWorld (os : Os) : World :=
  let w0 := World.holding Go.Proofs.Tryz.prog os ⟨#[], #[], []⟩
  { w0 with heap := w0.heap.modify 0 fun
      | .cells _ t frozen => .cells #[.iface 260 (.agg #[.pointer (some ⟨2, 33, none⟩)])] t frozen
      | o => o }

theorem bytes_ok (s : ByteArray) : bytesL (bytesOf s) := by
  intro c hc
  simp only [bytesOf, List.mem_map] at hc
  obtain ⟨b, _, rfl⟩ := hc
  exact b.toNat_lt
theorem strs_of : ∀ (el : List (List AV)), (∀ r ∈ el, Sh .str r) → ∃ ks, el = strsV ks ∧ ∀ k ∈ ks, bytesL k
  | [], _ => ⟨[], rfl, by simp⟩
  | r :: el, h => by
    obtain ⟨s, rfl⟩ := h r (by simp)
    obtain ⟨ks, rfl, hk⟩ := strs_of el fun x hx => h x (by simp [hx])
    exact ⟨bytesOf s :: ks, rfl, fun k hk' => by rcases List.mem_cons.1 hk' with rfl | h'; exact bytes_ok s; exact hk k h'⟩
def tySlot : Ty := .struct [.str, .int .i64, .bool, .int .i32, .int .i32, .int .i32]
theorem slots_of : ∀ (el : List (List AV)), (∀ r ∈ el, Sh tySlot r) → ∃ l, el = encSs l
  | [], _ => ⟨[], rfl⟩
  | r :: el, h => by
    obtain ⟨_, _, rfl, ⟨s, rfl⟩, _, _, rfl, ⟨m, rfl, _⟩, _, _, rfl, ⟨b, rfl⟩, _, _, rfl, ⟨lo, rfl, _⟩, _, _, rfl, ⟨hi, rfl, _⟩, _, _, rfl, ⟨ini, rfl, _⟩, rfl⟩ := h r (by simp)
    obtain ⟨l, rfl⟩ := slots_of el fun x hx => h x (by simp [hx])
    exact ⟨⟨bytesOf s, m, b, lo, hi, ini⟩ :: l, rfl⟩

set_option maxRecDepth 100000 in
theorem kinds_contract (H : Type) (enc : TypeId × Value → H) (W : World) (base : Nat) (args : Array Value) (ds gs : List (DataW H)) (before : List MemPlace) (fresh handsOn : Bool)
    (hval : ∀ (j : Nat) t v, Go.Proofs.Tryz.f3.params[j]? = some t → args[j]? = some v → Value.okWide Go.Proofs.Tryz.prog W .any base t v)
    (hW : DataW.Whole enc Go.Proofs.Tryz.prog Go.Proofs.Tryz.f3.params.toList Go.Proofs.YtfahpmlckobpmaaGreatDoor.Rows.checkKindsSpec.vars false W args.toList ds gs before) (hL : laidMetH Go.Proofs.Tryz.prog [("errors.errorType", Go.Proofs.YtfahpmlckobpmaaGreatDoor.Rows.laid_errors_errorType)] W) :
    Calls Go.Proofs.Tryz.prog 3 args W fun e W' => ∃ v, e = .returned v ∧ Go.Proofs.YtfahpmlckobpmaaGreatDoor.Rows.checkKindsSpec.post enc Go.Proofs.Tryz.prog Go.Proofs.Tryz.f3 false fresh handsOn false W args v W' := by
  have hW' := hW
  obtain ⟨p, q, hA0, hV, rfl, hfz, hnd⟩ := hW
  have hA : DataW.TrodAll enc Go.Proofs.Tryz.prog W 0 (fun _ => true) true Go.Proofs.Tryz.f3.params.toList args.toList ds p := hA0
  have hV' : DataW.TrodVars enc Go.Proofs.Tryz.prog W (fun _ => true) [] gs q := hV
  obtain ⟨rfl, rfl⟩ := trodVars_none hV'
  have hpar : Go.Proofs.Tryz.f3.params = #[9, 9, 22, 23] := by kernel_rfl
  rw [hpar] at hA hval
  obtain ⟨v0, vs0, d0, ds0, p0, q0, hargs, rfl, rfl, h0, r0⟩ := trodAll_cons hA
  obtain ⟨v1, vs1, d1, ds1, p1, q1, rfl, rfl, rfl, h1, r1⟩ := trodAll_cons r0
  obtain ⟨v2, vs2, d2, ds2, p2, q2, rfl, rfl, rfl, h2, r2⟩ := trodAll_cons r1
  obtain ⟨v3, vs3, d3, ds3, p3, q3, rfl, rfl, rfl, h3, r3⟩ := trodAll_cons r2
  obtain ⟨rfl, rfl, rfl⟩ := trodAll_nil r3
  obtain rfl : args = #[v0, v1, v2, v3] := by cases args; simp_all
  obtain ⟨s0, rfl, _, _, _⟩ := Go.ChangeMaps.open_string (P := Go.Proofs.Tryz.prog) (t := 9) (by kernel_rfl) (hval 0 9 v0 rfl rfl) h0
  obtain ⟨s1, rfl, _, _, _⟩ := Go.ChangeMaps.open_string (P := Go.Proofs.Tryz.prog) (t := 9) (by kernel_rfl) (hval 1 9 v1 rfl rfl) h1
  obtain ⟨a2, n2, c2, rfl⟩ := okWide_slice (P := Go.Proofs.Tryz.prog) (t := 22) (e := 9) (by kernel_rfl) (hval 2 22 v2 rfl rfl)
  obtain ⟨a3, n3, c3, rfl⟩ := okWide_slice (P := Go.Proofs.Tryz.prog) (t := 23) (e := 28) (by kernel_rfl) (hval 3 23 v3 rfl rfl)
  obtain ⟨f2, h2⟩ := h2
  obtain ⟨f3, h3⟩ := h3
  obtain ⟨l2, ⟨el2, rfl, hel2⟩, _, hr2⟩ := trod_rel (.slice .str) 22 f2 [.slice a2 n2 c2] _ (by decide +kernel) h2
  obtain ⟨l3, ⟨el3, rfl, hel3⟩, _, hr3⟩ := trod_rel (.slice tySlot) 23 f3 [.slice a3 n3 c3] _ (by decide +kernel) h3
  obtain ⟨ks, rfl, hks⟩ := strs_of el2 hel2
  obtain ⟨l, rfl⟩ := slots_of el3 hel3
  obtain ⟨h', hC⟩ := checkKinds_c (bytesOf s0) (bytesOf s1) ks l (bytes_ok _) hks .shared .shared
  have hcs := calls_sound (P := Go.Proofs.Tryz.prog) (W := W) env_ok (fun p hp => by
    simp only [GL, List.mem_singleton] at hp
    subst hp
    exact handle_of_laid hL) (f := K_law10_CheckKinds) (vs := #[.string s0, .string s1, .slice a2 n2 c2, .slice a3 n3 c3]) hC ⟨Go.Proofs.Tryz.f3, Go.Proofs.Tryz.func3, rfl, by decide⟩ ⟨rfl, fun i av x h1 h2 => by
      match i, h1, h2 with
      | 0, h1, h2 => simp at h1 h2; subst h1; subst h2; exact .str s0
      | 1, h1, h2 => simp at h1 h2; subst h1; subst h2; exact .str s1
      | 2, h1, h2 => simp at h1 h2; subst h1; subst h2; exact hr2.2 0 _ _ rfl rfl
      | 3, h1, h2 => simp at h1 h2; subst h1; subst h2; exact hr3.2 0 _ _ rfl rfl⟩
  refine Calls.mono hcs fun e W' he => ?_
  obtain ⟨x, rfl, hsz, hos, htape, hout, hheap, g', h'', hv⟩ := he
  obtain rfl := inv_bool hv
  exact ⟨_, rfl, law_post laidOut mapsRow sliceFull (tb := 4) rfl (by rw [nTypes]; decide) rfl uBool hW' rfl hos hout hheap⟩

theorem laid_met (os : Os) (args : Array Value) : laidMetH Go.Proofs.Tryz.prog [("errors.errorType", Go.Proofs.YtfahpmlckobpmaaGreatDoor.Rows.laid_errors_errorType)] ((laidWorld os).forCall (fun _ _ => 0) ⟨#[], args, []⟩).memory :=
  laidMetH_of_parts (laidMet_nil _ _) (by kernel_rfl)
theorem reads (os : Os) {H : Type} (enc : TypeId × Value → H) : ∃ places, DataW.whole enc Go.Proofs.Tryz.prog ((laidWorld os).forCall (fun _ _ => 0) ⟨#[], #[.string ⟨#[]⟩, .string ⟨#[]⟩, .slice none 0 0, .slice none 0 0], []⟩).memory Go.Proofs.Tryz.f3.params.toList Go.Proofs.YtfahpmlckobpmaaGreatDoor.Rows.checkKindsSpec.vars false #[Value.string ⟨#[]⟩, .string ⟨#[]⟩, .slice none 0 0, .slice none 0 0].toList 8 = some ([.lit (.string []), .lit (.string []), .nil, .nil], [], places) :=
  ⟨[], by kernel_rfl⟩

set_option maxRecDepth 100000 in
theorem lifted (os : Os) (started : os.Started) (H : Type) (enc : TypeId × Value → H) (F : Stop.Interp) :
    ReturnsInHanded {} Go.Proofs.Tryz.checked os 3 .any ((OpenSpec.ofChange Go.Proofs.YtfahpmlckobpmaaGreatDoor.Rows.checkKindsSpec).preRow enc Go.Proofs.Tryz.prog Go.Proofs.Tryz.f3 Go.Proofs.YtfahpmlckobpmaaGreatDoor.Rows.checkKindsRow.domain false Go.Proofs.YtfahpmlckobpmaaGreatDoor.Rows.checkKindsRow.laid) (((OpenSpec.ofChange Go.Proofs.YtfahpmlckobpmaaGreatDoor.Rows.checkKindsSpec).at F).post enc Go.Proofs.Tryz.prog Go.Proofs.Tryz.f3 false true false false) := by
  obtain ⟨places, hx⟩ := reads os enc
  refine returnsInHanded_of_row (C := Go.Proofs.Tryz.checked) (s := OpenSpec.ofChange Go.Proofs.YtfahpmlckobpmaaGreatDoor.Rows.checkKindsSpec) own started (by kernel_rfl) Go.Proofs.Tryz.func3
    (witness_row_at (enc := enc) (C := Go.Proofs.Tryz.checked) false (laidWorld os) #[.string ⟨#[]⟩, .string ⟨#[]⟩, .slice none 0 0, .slice none 0 0] rfl (by kernel_rfl) (by kernel_rfl) (by kernel_rfl)
      (OpenSpec.preRow_of_cond 8 hx (by kernel_rfl) (fun k hk => by cases hk) (by kernel_rfl) (laid_met os _))) ?_
  intro W base args ds gs before hval hW _ _ _ hL _ _
  exact kinds_contract H enc W base args ds gs before true false hval hW hL
end Go.Proofs.YtfahpmlckobpmaaGreatDoor.Pi
