/-
  NARROWER THAN 'FOR EVERY INPUT', by the rows' own cells (each row's printed sentence says how): FnExactTurnsAt: laid · FnExactCoinValues: laid · FnExactRowValue: laid · FnExactCountWinningTurns: laid.
  DERIVED. THE GIVEN ROWS OF THIS SEAT. 4 by the template 'for every input the law returns true; each argument reads behind the call as it read before'; 0 by the template 'total and deterministic' (their statements: YtnicjjnghclgpaaDoorTotals.lean).
  GIVEN WITH THE SEED: the statements are not yours to turn. If you find one false, say at which input.
  Laid BY PROGRAM, IN A SANDBOX (cutbox-rows.mjs): the forced cells as the released guide's own fill.sh prints them over the translation ee80e5a058699a31… (all of the seat's roots in one cut). By AI agents, Wed Nov 11 2026. No macro, syntax, notation, axiom, sorry.
-/
import Derived.Test.YtnicjjnghclgpaaDoorChecked
import GoSem.Claim
import GoSem.ClaimJoined
import GoSem.ClaimMapViews
import Derived.JoinedTies
import Derived.KernelRfl
namespace Go.Proofs.YtnicjjnghclgpaaDoor
/- THE CELL 'sum', in the pinned program and in every row, IS THE sha256 OF THE DUMP (.gsa) THAT YtnicjjnghclgpaaDoorProg.lean LOADS. Nothing in Lean hashes anything: it is a label: what it is worth is what the hold of that sum in a sandbox is worth. -/
noncomputable def Tryd.pinned : Pinned := { name := "ytnicjjnghclgpaadoor", sum := "ee80e5a058699a31a297e44d4e23818cb24cc7836c89fa33b488f093326af07f", checked := Tryd.checked }
namespace Rows
def none {H : Type} : Left H := { results := [], args := [] }

/- WHAT THE LISTED PACKAGE-LEVEL VARIABLES READ AS WHEN THE CALL BEGINS. Each datum BY PROGRAM (the guide's laid-datum.mjs) off the statement by which the dump's own 'gosem.cut.vars' lays the variable. In a bare row this is a premise. The card (YtnicjjnghclgpaaDoorCards.lean) ties it to the program's text. -/
def laid_math_bits_deBruijn32tab {H : Type} : DataW H := .agg [.lit (.int .u8 0), .lit (.int .u8 1), .lit (.int .u8 28), .lit (.int .u8 2), .lit (.int .u8 29), .lit (.int .u8 14), .lit (.int .u8 24), .lit (.int .u8 3), .lit (.int .u8 30), .lit (.int .u8 22), .lit (.int .u8 20), .lit (.int .u8 15), .lit (.int .u8 25), .lit (.int .u8 17), .lit (.int .u8 4), .lit (.int .u8 8), .lit (.int .u8 31), .lit (.int .u8 27), .lit (.int .u8 13), .lit (.int .u8 23), .lit (.int .u8 21), .lit (.int .u8 19), .lit (.int .u8 16), .lit (.int .u8 7), .lit (.int .u8 26), .lit (.int .u8 12), .lit (.int .u8 18), .lit (.int .u8 6), .lit (.int .u8 11), .lit (.int .u8 5), .lit (.int .u8 10), .lit (.int .u8 9)]

/-- 'laws.FnExactTurnsAt': WHATEVER THE INPUT: true; the input reads as it did. -/
def fnExactTurnsAtSpec : ChangeSpec := { name := "fnExactTurnsAt", fn := fun _ => fun
  | [d1, d2] => { results := [.lit (.bool true)], args := [d1, d2] }
  | _ => none }
def fnExactTurnsAtRow : OpenClaim := { program := "ytnicjjnghclgpaadoor", sum := "ee80e5a058699a31a297e44d4e23818cb24cc7836c89fa33b488f093326af07f", func := "loop.example/g01307/laws.FnExactTurnsAt", spec := "fnExactTurnsAt", unfollowed := true, recurses := true, named := ["math/bits.deBruijn32tab"], apart := false, laid := [("math/bits.deBruijn32tab", laid_math_bits_deBruijn32tab)] }
def FnExactTurnsAtSaid : Prop := fnExactTurnsAtRow.holds Tryd.pinned (OpenSpec.ofChange fnExactTurnsAtSpec)

/-- ITS FALSE NEIGHBOUR: 'it returns false'. Refute it at one input. -/
def fnExactTurnsAtWrong : ChangeSpec := { name := "fnExactTurnsAt", fn := fun _ => fun
  | [d1, d2] => { results := [.lit (.bool false)], args := [d1, d2] }
  | _ => none }
def FnExactTurnsAtWrongFalsely : Prop := fnExactTurnsAtRow.holds Tryd.pinned (OpenSpec.ofChange fnExactTurnsAtWrong)

/-- 'laws.FnExactCoinValues': WHATEVER THE INPUT: true; the input reads as it did. -/
def fnExactCoinValuesSpec : ChangeSpec := { name := "fnExactCoinValues", fn := fun _ => fun
  | [d1, d2] => { results := [.lit (.bool true)], args := [d1, d2] }
  | _ => none }
def fnExactCoinValuesRow : OpenClaim := { program := "ytnicjjnghclgpaadoor", sum := "ee80e5a058699a31a297e44d4e23818cb24cc7836c89fa33b488f093326af07f", func := "loop.example/g01307/laws.FnExactCoinValues", spec := "fnExactCoinValues", unfollowed := true, recurses := true, named := ["math/bits.deBruijn32tab"], apart := false, laid := [("math/bits.deBruijn32tab", laid_math_bits_deBruijn32tab)] }
def FnExactCoinValuesSaid : Prop := fnExactCoinValuesRow.holds Tryd.pinned (OpenSpec.ofChange fnExactCoinValuesSpec)

/-- ITS FALSE NEIGHBOUR: 'it returns false'. Refute it at one input. -/
def fnExactCoinValuesWrong : ChangeSpec := { name := "fnExactCoinValues", fn := fun _ => fun
  | [d1, d2] => { results := [.lit (.bool false)], args := [d1, d2] }
  | _ => none }
def FnExactCoinValuesWrongFalsely : Prop := fnExactCoinValuesRow.holds Tryd.pinned (OpenSpec.ofChange fnExactCoinValuesWrong)

/-- 'laws.FnExactRowValue': WHATEVER THE INPUT: true; the input reads as it did. -/
def fnExactRowValueSpec : ChangeSpec := { name := "fnExactRowValue", fn := fun _ => fun
  | [d1, d2] => { results := [.lit (.bool true)], args := [d1, d2] }
  | _ => none }
def fnExactRowValueRow : OpenClaim := { program := "ytnicjjnghclgpaadoor", sum := "ee80e5a058699a31a297e44d4e23818cb24cc7836c89fa33b488f093326af07f", func := "loop.example/g01307/laws.FnExactRowValue", spec := "fnExactRowValue", unfollowed := true, recurses := true, named := ["math/bits.deBruijn32tab"], apart := false, laid := [("math/bits.deBruijn32tab", laid_math_bits_deBruijn32tab)] }
def FnExactRowValueSaid : Prop := fnExactRowValueRow.holds Tryd.pinned (OpenSpec.ofChange fnExactRowValueSpec)

/-- ITS FALSE NEIGHBOUR: 'it returns false'. Refute it at one input. -/
def fnExactRowValueWrong : ChangeSpec := { name := "fnExactRowValue", fn := fun _ => fun
  | [d1, d2] => { results := [.lit (.bool false)], args := [d1, d2] }
  | _ => none }
def FnExactRowValueWrongFalsely : Prop := fnExactRowValueRow.holds Tryd.pinned (OpenSpec.ofChange fnExactRowValueWrong)

/-- 'laws.FnExactCountWinningTurns': WHATEVER THE INPUT: true; the input reads as it did. -/
def fnExactCountWinningTurnsSpec : ChangeSpec := { name := "fnExactCountWinningTurns", fn := fun _ => fun
  | [d1, d2] => { results := [.lit (.bool true)], args := [d1, d2] }
  | _ => none }
def fnExactCountWinningTurnsRow : OpenClaim := { program := "ytnicjjnghclgpaadoor", sum := "ee80e5a058699a31a297e44d4e23818cb24cc7836c89fa33b488f093326af07f", func := "loop.example/g01307/laws.FnExactCountWinningTurns", spec := "fnExactCountWinningTurns", unfollowed := true, recurses := true, named := ["math/bits.deBruijn32tab"], apart := false, laid := [("math/bits.deBruijn32tab", laid_math_bits_deBruijn32tab)] }
def FnExactCountWinningTurnsSaid : Prop := fnExactCountWinningTurnsRow.holds Tryd.pinned (OpenSpec.ofChange fnExactCountWinningTurnsSpec)

/-- ITS FALSE NEIGHBOUR: 'it returns false'. Refute it at one input. -/
def fnExactCountWinningTurnsWrong : ChangeSpec := { name := "fnExactCountWinningTurns", fn := fun _ => fun
  | [d1, d2] => { results := [.lit (.bool false)], args := [d1, d2] }
  | _ => none }
def FnExactCountWinningTurnsWrongFalsely : Prop := fnExactCountWinningTurnsRow.holds Tryd.pinned (OpenSpec.ofChange fnExactCountWinningTurnsWrong)

/- THE SECOND FORM. 'bulk': how many values and letters a reading holds, each counted each time it is reached (what is shared counts as often as it is met; a slice's spare places count too). A statement '..UptoSaid' is the law's where the arguments, and the package variables that the reading takes, are together of bulk at most 1048576: NARROWER than '..Said'. Prove '..Said' where nothing that the law and all that it calls make is longer than what came in: it says more and counts as full. Else prove '..UptoSaid'. A law counts once. -/
mutual
def uptoBulk {H : Type} : DataW H → Nat
  | .lit (.string bytes) => bytes.length + 1
  | .lit _ => 1
  | .nil => 1
  | .ptr d => uptoBulk d + 1
  | .slice elems spare => uptoBulkAll elems + uptoBulkAll spare + 1
  | .agg parts => uptoBulkAll parts + 1
  | .iface _ d => uptoBulk d + 1
  | .map entries => uptoBulkEntries entries + 1
  | .held _ => 1
def uptoBulkAll {H : Type} : List (DataW H) → Nat
  | [] => 0
  | d :: r => uptoBulk d + uptoBulkAll r
def uptoBulkEntries {H : Type} : List (Lit × DataW H) → Nat
  | [] => 0
  | x :: r => uptoBulkEntry x + uptoBulkEntries r
def uptoBulkEntry {H : Type} : Lit × DataW H → Nat
  | (.string bytes, d) => bytes.length + uptoBulk d + 1
  | (_, d) => uptoBulk d + 1
 end
def uptoSmall : (H : Type) → List (DataW H) → Bool := fun _ ds => decide (uptoBulkAll ds ≤ 1048576)
def OpenSpec.upto (s : _root_.Go.ChangeSpec) : _root_.Go.OpenSpec := { _root_.Go.OpenSpec.ofChange s with cond := some uptoSmall }

/-- 'laws.FnExactTurnsAt', WHERE WHAT IT READS IS OF BULK AT MOST 1048576: true; the input reads as it did. -/
def fnExactTurnsAtUptoRow : OpenClaim := { program := "ytnicjjnghclgpaadoor", sum := "ee80e5a058699a31a297e44d4e23818cb24cc7836c89fa33b488f093326af07f", func := "loop.example/g01307/laws.FnExactTurnsAt", spec := "fnExactTurnsAt", unfollowed := true, recurses := true, named := ["math/bits.deBruijn32tab"], apart := false, laid := [("math/bits.deBruijn32tab", laid_math_bits_deBruijn32tab)], narrowed := true }
def FnExactTurnsAtUptoSaid : Prop := fnExactTurnsAtUptoRow.holds Tryd.pinned (OpenSpec.upto fnExactTurnsAtSpec)

/-- 'laws.FnExactCoinValues', WHERE WHAT IT READS IS OF BULK AT MOST 1048576: true; the input reads as it did. -/
def fnExactCoinValuesUptoRow : OpenClaim := { program := "ytnicjjnghclgpaadoor", sum := "ee80e5a058699a31a297e44d4e23818cb24cc7836c89fa33b488f093326af07f", func := "loop.example/g01307/laws.FnExactCoinValues", spec := "fnExactCoinValues", unfollowed := true, recurses := true, named := ["math/bits.deBruijn32tab"], apart := false, laid := [("math/bits.deBruijn32tab", laid_math_bits_deBruijn32tab)], narrowed := true }
def FnExactCoinValuesUptoSaid : Prop := fnExactCoinValuesUptoRow.holds Tryd.pinned (OpenSpec.upto fnExactCoinValuesSpec)

/-- 'laws.FnExactRowValue', WHERE WHAT IT READS IS OF BULK AT MOST 1048576: true; the input reads as it did. -/
def fnExactRowValueUptoRow : OpenClaim := { program := "ytnicjjnghclgpaadoor", sum := "ee80e5a058699a31a297e44d4e23818cb24cc7836c89fa33b488f093326af07f", func := "loop.example/g01307/laws.FnExactRowValue", spec := "fnExactRowValue", unfollowed := true, recurses := true, named := ["math/bits.deBruijn32tab"], apart := false, laid := [("math/bits.deBruijn32tab", laid_math_bits_deBruijn32tab)], narrowed := true }
def FnExactRowValueUptoSaid : Prop := fnExactRowValueUptoRow.holds Tryd.pinned (OpenSpec.upto fnExactRowValueSpec)

/-- 'laws.FnExactCountWinningTurns', WHERE WHAT IT READS IS OF BULK AT MOST 1048576: true; the input reads as it did. -/
def fnExactCountWinningTurnsUptoRow : OpenClaim := { program := "ytnicjjnghclgpaadoor", sum := "ee80e5a058699a31a297e44d4e23818cb24cc7836c89fa33b488f093326af07f", func := "loop.example/g01307/laws.FnExactCountWinningTurns", spec := "fnExactCountWinningTurns", unfollowed := true, recurses := true, named := ["math/bits.deBruijn32tab"], apart := false, laid := [("math/bits.deBruijn32tab", laid_math_bits_deBruijn32tab)], narrowed := true }
def FnExactCountWinningTurnsUptoSaid : Prop := fnExactCountWinningTurnsUptoRow.holds Tryd.pinned (OpenSpec.upto fnExactCountWinningTurnsSpec)

end Rows
end Go.Proofs.YtnicjjnghclgpaaDoor
