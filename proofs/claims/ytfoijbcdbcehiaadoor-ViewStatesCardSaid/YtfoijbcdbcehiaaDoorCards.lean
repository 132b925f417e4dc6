/-
  DERIVED. GIVEN WITH THE SEED: THE CARDS: each row of YtfoijbcdbcehiaaDoorRows.lean that lists a variable, with what it lists TIED to the program's text (the seventh form; the later family's looks); each row that meets fmt, with fmt's text TOLD by the authors' own Lean function (tested against real Go, not proved from fmt's source: count such statements apart). THE CARD IS WHAT COUNTS. Prove the row's statement (the work); the ties are given (YtfoijbcdbcehiaaDoorTie.lean); close each card by the builder's one call (the guide's Derived/Test/ToyasCard.lean, 'card_holds'). Laid BY PROGRAM, IN A SANDBOX (cutbox-door.mjs). By AI agents, Wed Nov 11 2026. No macro, syntax, notation, axiom, sorry.
-/
import Derived.Test.YtfoijbcdbcehiaaDoorRows
import GoSem.ClaimSeven
namespace Go.Proofs.YtfoijbcdbcehiaaDoor
namespace Rows

/-- THE TIED CARD OF 'palinodelaw30.ViewStates'. -/
def viewStatesCard : Claim7 := { stood := { row := viewStatesRow, standIns := [], harness := (true, "f9e59ba318314822c309438851473cf22c1be4c06713d0199acbde31b6cc5f94"), looks := false }, kinds := [], alts := [], laidByText := true, laidKinds := [.data, .data, .data], laidTests := true, laidLooks := .later }
def ViewStatesCardSaid : Prop := Claim7.holds Tryd.pinned (.plain (OpenSpec.ofChange viewStatesSpec)) viewStatesCard

/-- THE SECOND FORM's CARD OF 'palinodelaw30.ViewStates'. -/
def viewStatesUptoCard : Claim7 := { stood := { row := viewStatesUptoRow, standIns := [], harness := (true, "f9e59ba318314822c309438851473cf22c1be4c06713d0199acbde31b6cc5f94"), looks := false }, kinds := [], alts := [], laidByText := true, laidKinds := [.data, .data, .data], laidTests := true, laidLooks := .later }
def ViewStatesUptoCardSaid : Prop := Claim7.holds Tryd.pinned (.plain (OpenSpec.upto viewStatesSpec)) viewStatesUptoCard
end Rows
end Go.Proofs.YtfoijbcdbcehiaaDoor
