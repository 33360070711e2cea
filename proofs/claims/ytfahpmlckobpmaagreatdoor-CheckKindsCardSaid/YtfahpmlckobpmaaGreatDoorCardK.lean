/-
  CheckKinds (the kind of any expression, with any variables): FOR EVERY INPUT the law answers true, and each argument reads behind the call as it read before. Condition: the package variable errors.errorType holds what the program's text lays there (the card ties it).
-/
import Derived.Test.YtfahpmlckobpmaaGreatDoorRowK
set_option linter.unusedSimpArgs false
set_option linter.unusedVariables false
set_option linter.unusedSectionVars false
namespace Go.Proofs.YtfahpmlckobpmaaGreatDoor.Pi
open Go Go.ChangeShapes Go.WideShapes Go.ChangeAt Go.RowKit

set_option maxRecDepth 100000 in
theorem said : Go.Proofs.YtfahpmlckobpmaaGreatDoor.Rows.CheckKindsSaid :=
  OpenClaim.holds_of_cond 3 Go.Proofs.Tryz.f3 rfl rfl rfl rfl rfl rfl rfl ⟨rfl, rfl, rfl, rfl, rfl⟩ rfl rfl rfl rfl rfl (by kernel_rfl) Go.Proofs.Tryz.func3 (by kernel_rfl)
    (of_decide_eq_true (by kernel_rfl)) (by unfold Func.isWrapper; first | (rw [if_pos (by decide +kernel)]; kernel_rfl) | (rw [if_neg (by decide +kernel)]; exact ⟨rfl, rfl⟩))
    (fun os started H enc _ F => by rw [OpenClaim.pre_eq_preRow]; exact lifted os started H enc F)

set_option maxRecDepth 100000 in
theorem plain (f : FuncId) (fn : Func) (hf : Go.Proofs.YtfahpmlckobpmaaGreatDoor.Tryz.pinned.checked.prog.funcNamed "sortilege/sortilegelaw10.CheckKinds" = some f) (hfn : Go.Proofs.YtfahpmlckobpmaaGreatDoor.Tryz.pinned.checked.prog.funcs[f]? = some fn) :
    true = Go.Proofs.YtfahpmlckobpmaaGreatDoor.Tryz.pinned.checked.prog.looks [] ∧ ∀ (j : Nat) t, fn.params[j]? = some t → Go.Proofs.YtfahpmlckobpmaaGreatDoor.Tryz.pinned.checked.prog.wantsStandIn t = false := by
  obtain rfl : f = 3 := Option.some.inj ((show Go.Proofs.Tryz.prog.funcNamed "sortilege/sortilegelaw10.CheckKinds" = some 3 by kernel_rfl).symm.trans hf) |>.symm
  obtain rfl : fn = Go.Proofs.Tryz.f3 := (Option.some.inj (Go.Proofs.Tryz.func3.symm.trans hfn)).symm
  refine ⟨by kernel_rfl, fun j t ht => ?_⟩
  have hpar : Go.Proofs.Tryz.f3.params = #[9, 9, 22, 23] := by kernel_rfl
  rw [hpar] at ht
  have h3 : t = 9 ∨ t = 22 ∨ t = 23 := by
    have := Array.mem_of_getElem? ht
    simp at this
    omega
  rcases h3 with rfl | rfl | rfl
  · exact (show Go.Proofs.Tryz.prog.wantsStandIn 9 = false by kernel_rfl)
  · exact (show Go.Proofs.Tryz.prog.wantsStandIn 22 = false by kernel_rfl)
  · exact (show Go.Proofs.Tryz.prog.wantsStandIn 23 = false by kernel_rfl)

set_option maxRecDepth 100000 in
theorem card : Go.Proofs.YtfahpmlckobpmaaGreatDoor.Rows.CheckKindsCardSaid :=
  Claim7.holds_tied_plain_at .later [] _ _ _ _ said (fun _ h => by cases h) (by kernel_rfl) (fun _ h => by cases h) Go.Proofs.YtfahpmlckobpmaaGreatDoor.checkKinds_row_tie rfl ⟨rfl, rfl⟩ (by kernel_rfl) rfl plain (by kernel_rfl)
#print axioms card
end Go.Proofs.YtfahpmlckobpmaaGreatDoor.Pi
