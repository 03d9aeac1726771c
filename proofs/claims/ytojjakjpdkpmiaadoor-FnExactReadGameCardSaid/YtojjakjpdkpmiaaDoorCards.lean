/-
  DERIVED. GIVEN WITH THE SEED: THE CARDS: each row of YtojjakjpdkpmiaaDoorRows.lean that lists a variable, with what it lists TIED to the program's text (the seventh form; the later family's looks); each row that meets fmt, with fmt's text TOLD by the authors' own Lean function (tested against real Go, not proved from fmt's source: count such statements apart). THE CARD IS WHAT COUNTS. Prove the row's statement (the work); the ties are given (YtojjakjpdkpmiaaDoorTie.lean); close each card by the builder's one call (the guide's Derived/Test/ToyasCard.lean, 'card_holds'). Laid BY PROGRAM, IN A SANDBOX (cutbox-door.mjs). By AI agents, Wed Nov 11 2026. No macro, syntax, notation, axiom, sorry.
-/
import Derived.Test.YtojjakjpdkpmiaaDoorRows
import GoSem.ClaimSeven
namespace Go.Proofs.YtojjakjpdkpmiaaDoor
namespace Rows

/-- THE TIED CARD OF 'laws.FnExactTurnsAt'. -/
def fnExactTurnsAtCard : Claim7 := { stood := { row := fnExactTurnsAtRow, standIns := [], harness := (true, "295abb6f7debd09b8bcaa65f44d2e1506e35102de45e6232838c817029c4256f"), looks := true }, kinds := [], alts := [], laidByText := true, laidKinds := [.data], laidTests := true, laidLooks := .later }
def FnExactTurnsAtCardSaid : Prop := Claim7.holds Tryd.pinned (.plain (OpenSpec.ofChange fnExactTurnsAtSpec)) fnExactTurnsAtCard

/-- THE TIED CARD OF 'laws.FnExactCoinValues'. -/
def fnExactCoinValuesCard : Claim7 := { stood := { row := fnExactCoinValuesRow, standIns := [], harness := (true, "295abb6f7debd09b8bcaa65f44d2e1506e35102de45e6232838c817029c4256f"), looks := true }, kinds := [], alts := [], laidByText := true, laidKinds := [.data], laidTests := true, laidLooks := .later }
def FnExactCoinValuesCardSaid : Prop := Claim7.holds Tryd.pinned (.plain (OpenSpec.ofChange fnExactCoinValuesSpec)) fnExactCoinValuesCard

/-- THE TIED CARD OF 'laws.FnExactRowValue'. -/
def fnExactRowValueCard : Claim7 := { stood := { row := fnExactRowValueRow, standIns := [], harness := (true, "295abb6f7debd09b8bcaa65f44d2e1506e35102de45e6232838c817029c4256f"), looks := true }, kinds := [], alts := [], laidByText := true, laidKinds := [.data], laidTests := true, laidLooks := .later }
def FnExactRowValueCardSaid : Prop := Claim7.holds Tryd.pinned (.plain (OpenSpec.ofChange fnExactRowValueSpec)) fnExactRowValueCard

/-- THE TIED CARD OF 'laws.FnExactCountWinningTurns'. -/
def fnExactCountWinningTurnsCard : Claim7 := { stood := { row := fnExactCountWinningTurnsRow, standIns := [], harness := (true, "295abb6f7debd09b8bcaa65f44d2e1506e35102de45e6232838c817029c4256f"), looks := true }, kinds := [], alts := [], laidByText := true, laidKinds := [.data], laidTests := true, laidLooks := .later }
def FnExactCountWinningTurnsCardSaid : Prop := Claim7.holds Tryd.pinned (.plain (OpenSpec.ofChange fnExactCountWinningTurnsSpec)) fnExactCountWinningTurnsCard

/-- THE TIED CARD OF 'laws.FnExactNimText'. -/
def fnExactNimTextCard : Claim7 := { stood := { row := fnExactNimTextRow, standIns := [], harness := (true, "295abb6f7debd09b8bcaa65f44d2e1506e35102de45e6232838c817029c4256f"), looks := true }, kinds := [], alts := [], laidByText := true, laidKinds := [.data, .data, .data], laidTests := true, laidLooks := .later }
def FnExactNimTextCardSaid : Prop := Claim7.holds Tryd.pinned (.plain (OpenSpec.ofChange fnExactNimTextSpec)) fnExactNimTextCard

/-- THE TIED CARD OF 'laws.FnExactNimsText'. -/
def fnExactNimsTextCard : Claim7 := { stood := { row := fnExactNimsTextRow, standIns := [], harness := (true, "295abb6f7debd09b8bcaa65f44d2e1506e35102de45e6232838c817029c4256f"), looks := true }, kinds := [], alts := [], laidByText := true, laidKinds := [.data, .data, .data], laidTests := true, laidLooks := .later }
def FnExactNimsTextCardSaid : Prop := Claim7.holds Tryd.pinned (.plain (OpenSpec.ofChange fnExactNimsTextSpec)) fnExactNimsTextCard

/-- THE TIED CARD OF 'laws.FnExactGameText'. -/
def fnExactGameTextCard : Claim7 := { stood := { row := fnExactGameTextRow, standIns := [], harness := (true, "295abb6f7debd09b8bcaa65f44d2e1506e35102de45e6232838c817029c4256f"), looks := true }, kinds := [], alts := [], laidByText := true, laidKinds := [.data, .data, .data], laidTests := true, laidLooks := .later }
def FnExactGameTextCardSaid : Prop := Claim7.holds Tryd.pinned (.plain (OpenSpec.ofChange fnExactGameTextSpec)) fnExactGameTextCard

/-- THE TIED CARD OF 'laws.FnExactReadNim'. -/
def fnExactReadNimCard : Claim7 := { stood := { row := fnExactReadNimRow, standIns := [], harness := (true, "295abb6f7debd09b8bcaa65f44d2e1506e35102de45e6232838c817029c4256f"), looks := true }, kinds := [], alts := [], laidByText := true, laidKinds := [.data, .data, .data, .sentinel, .sentinel], laidTests := true, laidLooks := .later }
def FnExactReadNimCardSaid : Prop := Claim7.holds Tryd.pinned (.plain (OpenSpec.ofChange fnExactReadNimSpec)) fnExactReadNimCard

/-- THE TIED CARD OF 'laws.FnExactReadNims'. -/
def fnExactReadNimsCard : Claim7 := { stood := { row := fnExactReadNimsRow, standIns := [], harness := (true, "295abb6f7debd09b8bcaa65f44d2e1506e35102de45e6232838c817029c4256f"), looks := true }, kinds := [], alts := [], laidByText := true, laidKinds := [.data, .data, .data, .data, .sentinel, .sentinel, .pinned], laidTests := true, laidLooks := .later }
def FnExactReadNimsCardSaid : Prop := Claim7.holds Tryd.pinned (.plain (OpenSpec.ofChange fnExactReadNimsSpec)) fnExactReadNimsCard

/-- THE TIED CARD OF 'laws.FnExactReadGame'. -/
def fnExactReadGameCard : Claim7 := { stood := { row := fnExactReadGameRow, standIns := [], harness := (true, "295abb6f7debd09b8bcaa65f44d2e1506e35102de45e6232838c817029c4256f"), looks := true }, kinds := [], alts := [], laidByText := true, laidKinds := [.data, .data, .data, .data, .sentinel, .sentinel, .pinned], laidTests := true, laidLooks := .later }
def FnExactReadGameCardSaid : Prop := Claim7.holds Tryd.pinned (.plain (OpenSpec.ofChange fnExactReadGameSpec)) fnExactReadGameCard

/-- THE TIED CARD OF 'laws.FnExactReadRow'. -/
def fnExactReadRowCard : Claim7 := { stood := { row := fnExactReadRowRow, standIns := [], harness := (true, "295abb6f7debd09b8bcaa65f44d2e1506e35102de45e6232838c817029c4256f"), looks := true }, kinds := [], alts := [], laidByText := true, laidKinds := [.data, .pinned], laidTests := true, laidLooks := .later }
def FnExactReadRowCardSaid : Prop := Claim7.holds Tryd.pinned (.plain (OpenSpec.ofChange fnExactReadRowSpec)) fnExactReadRowCard

/-- THE SECOND FORM's CARD OF 'laws.FnExactTurnsAt'. -/
def fnExactTurnsAtUptoCard : Claim7 := { stood := { row := fnExactTurnsAtUptoRow, standIns := [], harness := (true, "295abb6f7debd09b8bcaa65f44d2e1506e35102de45e6232838c817029c4256f"), looks := true }, kinds := [], alts := [], laidByText := true, laidKinds := [.data], laidTests := true, laidLooks := .later }
def FnExactTurnsAtUptoCardSaid : Prop := Claim7.holds Tryd.pinned (.plain (OpenSpec.upto fnExactTurnsAtSpec)) fnExactTurnsAtUptoCard

/-- THE SECOND FORM's CARD OF 'laws.FnExactCoinValues'. -/
def fnExactCoinValuesUptoCard : Claim7 := { stood := { row := fnExactCoinValuesUptoRow, standIns := [], harness := (true, "295abb6f7debd09b8bcaa65f44d2e1506e35102de45e6232838c817029c4256f"), looks := true }, kinds := [], alts := [], laidByText := true, laidKinds := [.data], laidTests := true, laidLooks := .later }
def FnExactCoinValuesUptoCardSaid : Prop := Claim7.holds Tryd.pinned (.plain (OpenSpec.upto fnExactCoinValuesSpec)) fnExactCoinValuesUptoCard

/-- THE SECOND FORM's CARD OF 'laws.FnExactRowValue'. -/
def fnExactRowValueUptoCard : Claim7 := { stood := { row := fnExactRowValueUptoRow, standIns := [], harness := (true, "295abb6f7debd09b8bcaa65f44d2e1506e35102de45e6232838c817029c4256f"), looks := true }, kinds := [], alts := [], laidByText := true, laidKinds := [.data], laidTests := true, laidLooks := .later }
def FnExactRowValueUptoCardSaid : Prop := Claim7.holds Tryd.pinned (.plain (OpenSpec.upto fnExactRowValueSpec)) fnExactRowValueUptoCard

/-- THE SECOND FORM's CARD OF 'laws.FnExactCountWinningTurns'. -/
def fnExactCountWinningTurnsUptoCard : Claim7 := { stood := { row := fnExactCountWinningTurnsUptoRow, standIns := [], harness := (true, "295abb6f7debd09b8bcaa65f44d2e1506e35102de45e6232838c817029c4256f"), looks := true }, kinds := [], alts := [], laidByText := true, laidKinds := [.data], laidTests := true, laidLooks := .later }
def FnExactCountWinningTurnsUptoCardSaid : Prop := Claim7.holds Tryd.pinned (.plain (OpenSpec.upto fnExactCountWinningTurnsSpec)) fnExactCountWinningTurnsUptoCard

/-- THE SECOND FORM's CARD OF 'laws.FnExactNimText'. -/
def fnExactNimTextUptoCard : Claim7 := { stood := { row := fnExactNimTextUptoRow, standIns := [], harness := (true, "295abb6f7debd09b8bcaa65f44d2e1506e35102de45e6232838c817029c4256f"), looks := true }, kinds := [], alts := [], laidByText := true, laidKinds := [.data, .data, .data], laidTests := true, laidLooks := .later }
def FnExactNimTextUptoCardSaid : Prop := Claim7.holds Tryd.pinned (.plain (OpenSpec.upto fnExactNimTextSpec)) fnExactNimTextUptoCard

/-- THE SECOND FORM's CARD OF 'laws.FnExactNimsText'. -/
def fnExactNimsTextUptoCard : Claim7 := { stood := { row := fnExactNimsTextUptoRow, standIns := [], harness := (true, "295abb6f7debd09b8bcaa65f44d2e1506e35102de45e6232838c817029c4256f"), looks := true }, kinds := [], alts := [], laidByText := true, laidKinds := [.data, .data, .data], laidTests := true, laidLooks := .later }
def FnExactNimsTextUptoCardSaid : Prop := Claim7.holds Tryd.pinned (.plain (OpenSpec.upto fnExactNimsTextSpec)) fnExactNimsTextUptoCard

/-- THE SECOND FORM's CARD OF 'laws.FnExactGameText'. -/
def fnExactGameTextUptoCard : Claim7 := { stood := { row := fnExactGameTextUptoRow, standIns := [], harness := (true, "295abb6f7debd09b8bcaa65f44d2e1506e35102de45e6232838c817029c4256f"), looks := true }, kinds := [], alts := [], laidByText := true, laidKinds := [.data, .data, .data], laidTests := true, laidLooks := .later }
def FnExactGameTextUptoCardSaid : Prop := Claim7.holds Tryd.pinned (.plain (OpenSpec.upto fnExactGameTextSpec)) fnExactGameTextUptoCard

/-- THE SECOND FORM's CARD OF 'laws.FnExactReadNim'. -/
def fnExactReadNimUptoCard : Claim7 := { stood := { row := fnExactReadNimUptoRow, standIns := [], harness := (true, "295abb6f7debd09b8bcaa65f44d2e1506e35102de45e6232838c817029c4256f"), looks := true }, kinds := [], alts := [], laidByText := true, laidKinds := [.data, .data, .data, .sentinel, .sentinel], laidTests := true, laidLooks := .later }
def FnExactReadNimUptoCardSaid : Prop := Claim7.holds Tryd.pinned (.plain (OpenSpec.upto fnExactReadNimSpec)) fnExactReadNimUptoCard

/-- THE SECOND FORM's CARD OF 'laws.FnExactReadNims'. -/
def fnExactReadNimsUptoCard : Claim7 := { stood := { row := fnExactReadNimsUptoRow, standIns := [], harness := (true, "295abb6f7debd09b8bcaa65f44d2e1506e35102de45e6232838c817029c4256f"), looks := true }, kinds := [], alts := [], laidByText := true, laidKinds := [.data, .data, .data, .data, .sentinel, .sentinel, .pinned], laidTests := true, laidLooks := .later }
def FnExactReadNimsUptoCardSaid : Prop := Claim7.holds Tryd.pinned (.plain (OpenSpec.upto fnExactReadNimsSpec)) fnExactReadNimsUptoCard

/-- THE SECOND FORM's CARD OF 'laws.FnExactReadGame'. -/
def fnExactReadGameUptoCard : Claim7 := { stood := { row := fnExactReadGameUptoRow, standIns := [], harness := (true, "295abb6f7debd09b8bcaa65f44d2e1506e35102de45e6232838c817029c4256f"), looks := true }, kinds := [], alts := [], laidByText := true, laidKinds := [.data, .data, .data, .data, .sentinel, .sentinel, .pinned], laidTests := true, laidLooks := .later }
def FnExactReadGameUptoCardSaid : Prop := Claim7.holds Tryd.pinned (.plain (OpenSpec.upto fnExactReadGameSpec)) fnExactReadGameUptoCard

/-- THE SECOND FORM's CARD OF 'laws.FnExactReadRow'. -/
def fnExactReadRowUptoCard : Claim7 := { stood := { row := fnExactReadRowUptoRow, standIns := [], harness := (true, "295abb6f7debd09b8bcaa65f44d2e1506e35102de45e6232838c817029c4256f"), looks := true }, kinds := [], alts := [], laidByText := true, laidKinds := [.data, .pinned], laidTests := true, laidLooks := .later }
def FnExactReadRowUptoCardSaid : Prop := Claim7.holds Tryd.pinned (.plain (OpenSpec.upto fnExactReadRowSpec)) fnExactReadRowUptoCard
end Rows
end Go.Proofs.YtojjakjpdkpmiaaDoor
