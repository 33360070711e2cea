/-
  The chapter's example: the kernel runs it.
-/
import Derived.Test.YtfahpmlckobpmaaGreatDoorSeat
set_option linter.unusedSimpArgs false
set_option linter.unusedVariables false
set_option linter.unusedSectionVars false
namespace Go.Proofs.YtfahpmlckobpmaaGreatDoor.Pi
open Go

/-- does a run tell true, and leave nothing? -/
def yes : Option (AV × AH) → Bool
  | some (.bool true, ⟨[], []⟩) => true
  | _ => false
theorem of_yes {x : Option (AV × AH)} (h : yes x = true) : x = some (.bool true, ⟨[], []⟩) := by
  unfold yes at h
  split at h
  · rfl
  · cases h
theorem alive_run : yes (callRun EE 60 K_law10_alive [] ⟨[], []⟩) = true := by decide +kernel
theorem alive_c : C EE K_law10_alive [] ⟨[], []⟩ = some (.bool true, ⟨[], []⟩) := C_iff.2 ⟨60, of_yes alive_run⟩
end Go.Proofs.YtfahpmlckobpmaaGreatDoor.Pi
