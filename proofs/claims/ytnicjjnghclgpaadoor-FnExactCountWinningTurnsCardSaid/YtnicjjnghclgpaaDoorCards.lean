/-
  DERIVED. GIVEN WITH THE SEED: THE CARDS: each row of YtnicjjnghclgpaaDoorRows.lean that lists a variable, with what it lists TIED to the program's text (the seventh form; the later family's looks); each row that meets fmt, with fmt's text TOLD by the authors' own Lean function (tested against real Go, not proved from fmt's source: count such statements apart). THE CARD IS WHAT COUNTS. Prove the row's statement (the work); the ties are given (YtnicjjnghclgpaaDoorTie.lean); close each card by the builder's one call (the guide's Derived/Test/ToyasCard.lean, 'card_holds'). Laid BY PROGRAM, IN A SANDBOX (cutbox-door.mjs). By AI agents, Wed Nov 11 2026. No macro, syntax, notation, axiom, sorry.
-/
import Derived.Test.YtnicjjnghclgpaaDoorRows
import GoSem.ClaimSeven
namespace Go.Proofs.YtnicjjnghclgpaaDoor
namespace Rows

/-- THE TIED CARD OF 'laws.FnExactTurnsAt'. -/
def fnExactTurnsAtCard : Claim7 := { stood := { row := fnExactTurnsAtRow, standIns := [], harness := (true, "7c4d251fd3f8e5b53feaa75cb82ea0fda8ba13cf7223d2a6526aeae0e4f9d915"), looks := false }, kinds := [], alts := [], laidByText := true, laidKinds := [.data], laidTests := true, laidLooks := .later }
def FnExactTurnsAtCardSaid : Prop := Claim7.holds Tryd.pinned (.plain (OpenSpec.ofChange fnExactTurnsAtSpec)) fnExactTurnsAtCard

/-- THE TIED CARD OF 'laws.FnExactCoinValues'. -/
def fnExactCoinValuesCard : Claim7 := { stood := { row := fnExactCoinValuesRow, standIns := [], harness := (true, "7c4d251fd3f8e5b53feaa75cb82ea0fda8ba13cf7223d2a6526aeae0e4f9d915"), looks := false }, kinds := [], alts := [], laidByText := true, laidKinds := [.data], laidTests := true, laidLooks := .later }
def FnExactCoinValuesCardSaid : Prop := Claim7.holds Tryd.pinned (.plain (OpenSpec.ofChange fnExactCoinValuesSpec)) fnExactCoinValuesCard

/-- THE TIED CARD OF 'laws.FnExactRowValue'. -/
def fnExactRowValueCard : Claim7 := { stood := { row := fnExactRowValueRow, standIns := [], harness := (true, "7c4d251fd3f8e5b53feaa75cb82ea0fda8ba13cf7223d2a6526aeae0e4f9d915"), looks := false }, kinds := [], alts := [], laidByText := true, laidKinds := [.data], laidTests := true, laidLooks := .later }
def FnExactRowValueCardSaid : Prop := Claim7.holds Tryd.pinned (.plain (OpenSpec.ofChange fnExactRowValueSpec)) fnExactRowValueCard

/-- THE TIED CARD OF 'laws.FnExactCountWinningTurns'. -/
def fnExactCountWinningTurnsCard : Claim7 := { stood := { row := fnExactCountWinningTurnsRow, standIns := [], harness := (true, "7c4d251fd3f8e5b53feaa75cb82ea0fda8ba13cf7223d2a6526aeae0e4f9d915"), looks := false }, kinds := [], alts := [], laidByText := true, laidKinds := [.data], laidTests := true, laidLooks := .later }
def FnExactCountWinningTurnsCardSaid : Prop := Claim7.holds Tryd.pinned (.plain (OpenSpec.ofChange fnExactCountWinningTurnsSpec)) fnExactCountWinningTurnsCard

/-- THE SECOND FORM's CARD OF 'laws.FnExactTurnsAt'. -/
def fnExactTurnsAtUptoCard : Claim7 := { stood := { row := fnExactTurnsAtUptoRow, standIns := [], harness := (true, "7c4d251fd3f8e5b53feaa75cb82ea0fda8ba13cf7223d2a6526aeae0e4f9d915"), looks := false }, kinds := [], alts := [], laidByText := true, laidKinds := [.data], laidTests := true, laidLooks := .later }
def FnExactTurnsAtUptoCardSaid : Prop := Claim7.holds Tryd.pinned (.plain (OpenSpec.upto fnExactTurnsAtSpec)) fnExactTurnsAtUptoCard

/-- THE SECOND FORM's CARD OF 'laws.FnExactCoinValues'. -/
def fnExactCoinValuesUptoCard : Claim7 := { stood := { row := fnExactCoinValuesUptoRow, standIns := [], harness := (true, "7c4d251fd3f8e5b53feaa75cb82ea0fda8ba13cf7223d2a6526aeae0e4f9d915"), looks := false }, kinds := [], alts := [], laidByText := true, laidKinds := [.data], laidTests := true, laidLooks := .later }
def FnExactCoinValuesUptoCardSaid : Prop := Claim7.holds Tryd.pinned (.plain (OpenSpec.upto fnExactCoinValuesSpec)) fnExactCoinValuesUptoCard

/-- THE SECOND FORM's CARD OF 'laws.FnExactRowValue'. -/
def fnExactRowValueUptoCard : Claim7 := { stood := { row := fnExactRowValueUptoRow, standIns := [], harness := (true, "7c4d251fd3f8e5b53feaa75cb82ea0fda8ba13cf7223d2a6526aeae0e4f9d915"), looks := false }, kinds := [], alts := [], laidByText := true, laidKinds := [.data], laidTests := true, laidLooks := .later }
def FnExactRowValueUptoCardSaid : Prop := Claim7.holds Tryd.pinned (.plain (OpenSpec.upto fnExactRowValueSpec)) fnExactRowValueUptoCard

/-- THE SECOND FORM's CARD OF 'laws.FnExactCountWinningTurns'. -/
def fnExactCountWinningTurnsUptoCard : Claim7 := { stood := { row := fnExactCountWinningTurnsUptoRow, standIns := [], harness := (true, "7c4d251fd3f8e5b53feaa75cb82ea0fda8ba13cf7223d2a6526aeae0e4f9d915"), looks := false }, kinds := [], alts := [], laidByText := true, laidKinds := [.data], laidTests := true, laidLooks := .later }
def FnExactCountWinningTurnsUptoCardSaid : Prop := Claim7.holds Tryd.pinned (.plain (OpenSpec.upto fnExactCountWinningTurnsSpec)) fnExactCountWinningTurnsUptoCard
end Rows
end Go.Proofs.YtnicjjnghclgpaaDoor
