/-
  DERIVED. GIVEN WITH THE SEED: THE CARDS: each row of YteinllalhiflcaaDoorRows.lean that lists a variable, with what it lists TIED to the program's text (the seventh form; the later family's looks); each row that meets fmt, with fmt's text TOLD by the authors' own Lean function (tested against real Go, not proved from fmt's source: count such statements apart). THE CARD IS WHAT COUNTS. Prove the row's statement (the work); the ties are given (YteinllalhiflcaaDoorTie.lean); close each card by the builder's one call (the guide's Derived/Test/ToyasCard.lean, 'card_holds'). Laid BY PROGRAM, IN A SANDBOX (cutbox-door.mjs). By AI agents, Wed Nov 11 2026. No macro, syntax, notation, axiom, sorry.
-/
import Derived.Test.YteinllalhiflcaaDoorRows
import GoSem.ClaimSeven
namespace Go.Proofs.YteinllalhiflcaaDoor
namespace Rows

/-- THE TIED CARD OF 'laws.FnExactMayTurn'. -/
def fnExactMayTurnCard : Claim7 := { stood := { row := fnExactMayTurnRow, standIns := [], harness := (true, "75261553f8ff9d6777e348efe0f56d19bc29474060088baf72cf8e19fc3d9f7d"), looks := false }, kinds := [], alts := [], laidByText := true, laidKinds := [.data], laidTests := true, laidLooks := .later }
def FnExactMayTurnCardSaid : Prop := Claim7.holds Tryd.pinned (.plain (OpenSpec.ofChange fnExactMayTurnSpec)) fnExactMayTurnCard

/-- THE TIED CARD OF 'laws.FnExactTurnRow'. -/
def fnExactTurnRowCard : Claim7 := { stood := { row := fnExactTurnRowRow, standIns := [], harness := (true, "75261553f8ff9d6777e348efe0f56d19bc29474060088baf72cf8e19fc3d9f7d"), looks := false }, kinds := [], alts := [], laidByText := true, laidKinds := [.data], laidTests := true, laidLooks := .later }
def FnExactTurnRowCardSaid : Prop := Claim7.holds Tryd.pinned (.plain (OpenSpec.ofChange fnExactTurnRowSpec)) fnExactTurnRowCard

/-- THE TIED CARD OF 'laws.FnExactTurnBoard'. -/
def fnExactTurnBoardCard : Claim7 := { stood := { row := fnExactTurnBoardRow, standIns := [], harness := (true, "75261553f8ff9d6777e348efe0f56d19bc29474060088baf72cf8e19fc3d9f7d"), looks := false }, kinds := [], alts := [], laidByText := true, laidKinds := [.data], laidTests := true, laidLooks := .later }
def FnExactTurnBoardCardSaid : Prop := Claim7.holds Tryd.pinned (.plain (OpenSpec.ofChange fnExactTurnBoardSpec)) fnExactTurnBoardCard

/-- THE SECOND FORM's CARD OF 'laws.FnExactMayTurn'. -/
def fnExactMayTurnUptoCard : Claim7 := { stood := { row := fnExactMayTurnUptoRow, standIns := [], harness := (true, "75261553f8ff9d6777e348efe0f56d19bc29474060088baf72cf8e19fc3d9f7d"), looks := false }, kinds := [], alts := [], laidByText := true, laidKinds := [.data], laidTests := true, laidLooks := .later }
def FnExactMayTurnUptoCardSaid : Prop := Claim7.holds Tryd.pinned (.plain (OpenSpec.upto fnExactMayTurnSpec)) fnExactMayTurnUptoCard

/-- THE SECOND FORM's CARD OF 'laws.FnExactTurnRow'. -/
def fnExactTurnRowUptoCard : Claim7 := { stood := { row := fnExactTurnRowUptoRow, standIns := [], harness := (true, "75261553f8ff9d6777e348efe0f56d19bc29474060088baf72cf8e19fc3d9f7d"), looks := false }, kinds := [], alts := [], laidByText := true, laidKinds := [.data], laidTests := true, laidLooks := .later }
def FnExactTurnRowUptoCardSaid : Prop := Claim7.holds Tryd.pinned (.plain (OpenSpec.upto fnExactTurnRowSpec)) fnExactTurnRowUptoCard

/-- THE SECOND FORM's CARD OF 'laws.FnExactTurnBoard'. -/
def fnExactTurnBoardUptoCard : Claim7 := { stood := { row := fnExactTurnBoardUptoRow, standIns := [], harness := (true, "75261553f8ff9d6777e348efe0f56d19bc29474060088baf72cf8e19fc3d9f7d"), looks := false }, kinds := [], alts := [], laidByText := true, laidKinds := [.data], laidTests := true, laidLooks := .later }
def FnExactTurnBoardUptoCardSaid : Prop := Claim7.holds Tryd.pinned (.plain (OpenSpec.upto fnExactTurnBoardSpec)) fnExactTurnBoardUptoCard
end Rows
end Go.Proofs.YteinllalhiflcaaDoor
