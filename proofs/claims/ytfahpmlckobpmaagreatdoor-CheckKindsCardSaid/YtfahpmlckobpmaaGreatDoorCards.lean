/-
  DERIVED. GIVEN WITH THE SEED: THE CARDS: each row of YtfahpmlckobpmaaGreatDoorRows.lean that lists a variable, with what it lists TIED to the program's text (the seventh form; the later family's looks); each row that meets fmt, with fmt's text TOLD by the authors' own Lean function (tested against real Go, not proved from fmt's source: count such statements apart). THE CARD IS WHAT COUNTS. Prove the row's statement (the work); the ties are given (YtfahpmlckobpmaaGreatDoorTie.lean); close each card by the builder's one call (the guide's Derived/Test/ToyasCard.lean, 'card_holds'). Laid BY PROGRAM, IN A SANDBOX (cutbox-door.mjs). By AI agents, Wed Nov 11 2026. No macro, syntax, notation, axiom, sorry.
-/
import Derived.Test.YtfahpmlckobpmaaGreatDoorRows
import GoSem.ClaimSeven
namespace Go.Proofs.YtfahpmlckobpmaaGreatDoor
namespace Rows

/-- THE TIED CARD OF 'sortilegelaw10.CheckKinds'. -/
def checkKindsCard : Claim7 := { stood := { row := checkKindsRow, standIns := [], harness := (true, "8519e05290857cc009ff125dc7ee7a69ae8377a885a8480f76c4dbea6b109870"), looks := true }, kinds := [], alts := [], laidByText := true, laidKinds := [.handle], laidTests := true, laidLooks := .later }
def CheckKindsCardSaid : Prop := Claim7.holds Tryz.pinned (.plain (OpenSpec.ofChange checkKindsSpec)) checkKindsCard

/-- THE TIED CARD OF 'sortilegelaw10.CheckLays'. -/
def checkLaysCard : Claim7 := { stood := { row := checkLaysRow, standIns := [], harness := (true, "8519e05290857cc009ff125dc7ee7a69ae8377a885a8480f76c4dbea6b109870"), looks := true }, kinds := [], alts := [], laidByText := true, laidKinds := [.handle], laidTests := true, laidLooks := .later }
def CheckLaysCardSaid : Prop := Claim7.holds Tryz.pinned (.plain (OpenSpec.ofChange checkLaysSpec)) checkLaysCard

/-- THE SECOND FORM's CARD OF 'sortilegelaw10.CheckKinds'. -/
def checkKindsUptoCard : Claim7 := { stood := { row := checkKindsUptoRow, standIns := [], harness := (true, "8519e05290857cc009ff125dc7ee7a69ae8377a885a8480f76c4dbea6b109870"), looks := true }, kinds := [], alts := [], laidByText := true, laidKinds := [.handle], laidTests := true, laidLooks := .later }
def CheckKindsUptoCardSaid : Prop := Claim7.holds Tryz.pinned (.plain (OpenSpec.upto checkKindsSpec)) checkKindsUptoCard

/-- THE SECOND FORM's CARD OF 'sortilegelaw10.CheckLays'. -/
def checkLaysUptoCard : Claim7 := { stood := { row := checkLaysUptoRow, standIns := [], harness := (true, "8519e05290857cc009ff125dc7ee7a69ae8377a885a8480f76c4dbea6b109870"), looks := true }, kinds := [], alts := [], laidByText := true, laidKinds := [.handle], laidTests := true, laidLooks := .later }
def CheckLaysUptoCardSaid : Prop := Claim7.holds Tryz.pinned (.plain (OpenSpec.upto checkLaysSpec)) checkLaysUptoCard
end Rows
end Go.Proofs.YtfahpmlckobpmaaGreatDoor
