/-
  DERIVED. GIVEN WITH THE SEED: THE CARDS: each row of YtdgglnjegkmamaaDoorRows.lean that lists a variable, with what it lists TIED to the program's text (the seventh form; the later family's looks); each row that meets fmt, with fmt's text TOLD by the authors' own Lean function (tested against real Go, not proved from fmt's source: count such statements apart). THE CARD IS WHAT COUNTS. Prove the row's statement (the work); the ties are given (YtdgglnjegkmamaaDoorTie.lean); close each card by the builder's one call (the guide's Derived/Test/ToyasCard.lean, 'card_holds'). Laid BY PROGRAM, IN A SANDBOX (cutbox-door.mjs). By AI agents, Wed Nov 11 2026. No macro, syntax, notation, axiom, sorry.
-/
import Derived.Test.YtdgglnjegkmamaaDoorRows
import GoSem.ClaimSeven
namespace Go.Proofs.YtdgglnjegkmamaaDoor
namespace Rows

/-- THE TIED CARD OF 'laws.FnExactMatrixText'. -/
def fnExactMatrixTextCard : Claim7 := { stood := { row := fnExactMatrixTextRow, standIns := [], harness := (true, "c2fd38d03ba83896cb86829eacc2852e237c81a2cbdb00ab82e12069a3e212b0"), looks := true }, kinds := [], alts := [], laidByText := true, laidKinds := [.data, .data, .data], laidTests := true, laidLooks := .later }
def FnExactMatrixTextCardSaid : Prop := Claim7.holds Tryd.pinned (.plain (OpenSpec.ofChange fnExactMatrixTextSpec)) fnExactMatrixTextCard

/-- THE TIED CARD OF 'laws.FnExactReadMatrix'. -/
def fnExactReadMatrixCard : Claim7 := { stood := { row := fnExactReadMatrixRow, standIns := [], harness := (true, "c2fd38d03ba83896cb86829eacc2852e237c81a2cbdb00ab82e12069a3e212b0"), looks := true }, kinds := [], alts := [], laidByText := true, laidKinds := [.data, .data, .data, .data, .sentinel, .sentinel, .pinned], laidTests := true, laidLooks := .later }
def FnExactReadMatrixCardSaid : Prop := Claim7.holds Tryd.pinned (.plain (OpenSpec.ofChange fnExactReadMatrixSpec)) fnExactReadMatrixCard

/-- THE TIED CARD OF 'laws.FnExactRectangleByExclusion'. -/
def fnExactRectangleByExclusionCard : Claim7 := { stood := { row := fnExactRectangleByExclusionRow, standIns := [], harness := (true, "c2fd38d03ba83896cb86829eacc2852e237c81a2cbdb00ab82e12069a3e212b0"), looks := true }, kinds := [], alts := [], laidByText := true, laidKinds := [.data], laidTests := true, laidLooks := .later }
def FnExactRectangleByExclusionCardSaid : Prop := Claim7.holds Tryd.pinned (.plain (OpenSpec.ofChange fnExactRectangleByExclusionSpec)) fnExactRectangleByExclusionCard

/-- THE SECOND FORM's CARD OF 'laws.FnExactMatrixText'. -/
def fnExactMatrixTextUptoCard : Claim7 := { stood := { row := fnExactMatrixTextUptoRow, standIns := [], harness := (true, "c2fd38d03ba83896cb86829eacc2852e237c81a2cbdb00ab82e12069a3e212b0"), looks := true }, kinds := [], alts := [], laidByText := true, laidKinds := [.data, .data, .data], laidTests := true, laidLooks := .later }
def FnExactMatrixTextUptoCardSaid : Prop := Claim7.holds Tryd.pinned (.plain (OpenSpec.upto fnExactMatrixTextSpec)) fnExactMatrixTextUptoCard

/-- THE SECOND FORM's CARD OF 'laws.FnExactReadMatrix'. -/
def fnExactReadMatrixUptoCard : Claim7 := { stood := { row := fnExactReadMatrixUptoRow, standIns := [], harness := (true, "c2fd38d03ba83896cb86829eacc2852e237c81a2cbdb00ab82e12069a3e212b0"), looks := true }, kinds := [], alts := [], laidByText := true, laidKinds := [.data, .data, .data, .data, .sentinel, .sentinel, .pinned], laidTests := true, laidLooks := .later }
def FnExactReadMatrixUptoCardSaid : Prop := Claim7.holds Tryd.pinned (.plain (OpenSpec.upto fnExactReadMatrixSpec)) fnExactReadMatrixUptoCard

/-- THE SECOND FORM's CARD OF 'laws.FnExactRectangleByExclusion'. -/
def fnExactRectangleByExclusionUptoCard : Claim7 := { stood := { row := fnExactRectangleByExclusionUptoRow, standIns := [], harness := (true, "c2fd38d03ba83896cb86829eacc2852e237c81a2cbdb00ab82e12069a3e212b0"), looks := true }, kinds := [], alts := [], laidByText := true, laidKinds := [.data], laidTests := true, laidLooks := .later }
def FnExactRectangleByExclusionUptoCardSaid : Prop := Claim7.holds Tryd.pinned (.plain (OpenSpec.upto fnExactRectangleByExclusionSpec)) fnExactRectangleByExclusionUptoCard
end Rows
end Go.Proofs.YtdgglnjegkmamaaDoor
