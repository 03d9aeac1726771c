/-
  No cell of these rows narrows 'for every input' (looked for: loops, veiled, ifaces, maps, wideKeys, modest, calm, conditions, laid).
  DERIVED. THE GIVEN ROWS OF THIS SEAT. 7 by the template 'for every input the law returns true; each argument reads behind the call as it read before'; 0 by the template 'total and deterministic' (their statements: YteinllalhiflcaaTotals.lean).
  GIVEN WITH THE SEED: the statements are not yours to turn. If you find one false, say at which input.
  Laid BY PROGRAM, IN A SANDBOX (cutbox-rows.mjs): the forced cells as the released guide's own fill.sh prints them over the translation 70ef1670cf0a12f5… (all of the seat's roots in one cut). By AI agents, Wed Nov 11 2026. No macro, syntax, notation, axiom, sorry.
-/
import Derived.Test.YteinllalhiflcaaChecked
import GoSem.Claim
import GoSem.ClaimJoined
import GoSem.ClaimMapViews
import Derived.JoinedTies
import Derived.KernelRfl
namespace Go.Proofs.Yteinllalhiflcaa
/- THE CELL 'sum', in the pinned program and in every row, IS THE sha256 OF THE DUMP (.gsa) THAT YteinllalhiflcaaProg.lean LOADS. Nothing in Lean hashes anything: it is a label: what it is worth is what the hold of that sum in a sandbox is worth. -/
noncomputable def Try.pinned : Pinned := { name := "yteinllalhiflcaa", sum := "70ef1670cf0a12f5118d64eabf7caa629107db7057bb1620c6569838b310f36d", checked := Try.checked }
namespace Rows
def none {H : Type} : Left H := { results := [], args := [] }

/-- 'laws.FnExactTakeMoves': WHATEVER THE INPUT: true; the input reads as it did. -/
def fnExactTakeMovesSpec : ChangeSpec := { name := "fnExactTakeMoves", fn := fun _ => fun
  | [d1, d2] => { results := [.lit (.bool true)], args := [d1, d2] }
  | _ => none }
def fnExactTakeMovesRow : OpenClaim := { program := "yteinllalhiflcaa", sum := "70ef1670cf0a12f5118d64eabf7caa629107db7057bb1620c6569838b310f36d", func := "loop.example/g01307/laws.FnExactTakeMoves", spec := "fnExactTakeMoves", unfollowed := true, recurses := true, apart := false }
def FnExactTakeMovesSaid : Prop := fnExactTakeMovesRow.holds Try.pinned (OpenSpec.ofChange fnExactTakeMovesSpec)

/-- ITS FALSE NEIGHBOUR: 'it returns false'. Refute it at one input. -/
def fnExactTakeMovesWrong : ChangeSpec := { name := "fnExactTakeMoves", fn := fun _ => fun
  | [d1, d2] => { results := [.lit (.bool false)], args := [d1, d2] }
  | _ => none }
def FnExactTakeMovesWrongFalsely : Prop := fnExactTakeMovesRow.holds Try.pinned (OpenSpec.ofChange fnExactTakeMovesWrong)

/-- 'laws.FnHeapsTaken': WHATEVER THE INPUT: true; the input reads as it did. -/
def fnHeapsTakenSpec : ChangeSpec := { name := "fnHeapsTaken", fn := fun _ => fun
  | [d1, d2] => { results := [.lit (.bool true)], args := [d1, d2] }
  | _ => none }
def fnHeapsTakenRow : OpenClaim := { program := "yteinllalhiflcaa", sum := "70ef1670cf0a12f5118d64eabf7caa629107db7057bb1620c6569838b310f36d", func := "loop.example/g01307/laws.FnHeapsTaken", spec := "fnHeapsTaken", unfollowed := true, recurses := true, apart := false }
def FnHeapsTakenSaid : Prop := fnHeapsTakenRow.holds Try.pinned (OpenSpec.ofChange fnHeapsTakenSpec)

/-- ITS FALSE NEIGHBOUR: 'it returns false'. Refute it at one input. -/
def fnHeapsTakenWrong : ChangeSpec := { name := "fnHeapsTaken", fn := fun _ => fun
  | [d1, d2] => { results := [.lit (.bool false)], args := [d1, d2] }
  | _ => none }
def FnHeapsTakenWrongFalsely : Prop := fnHeapsTakenRow.holds Try.pinned (OpenSpec.ofChange fnHeapsTakenWrong)

/-- 'laws.FnExactAddGames': WHATEVER THE INPUT: true; the input reads as it did. -/
def fnExactAddGamesSpec : ChangeSpec := { name := "fnExactAddGames", fn := fun _ => fun
  | [d1, d2] => { results := [.lit (.bool true)], args := [d1, d2] }
  | _ => none }
def fnExactAddGamesRow : OpenClaim := { program := "yteinllalhiflcaa", sum := "70ef1670cf0a12f5118d64eabf7caa629107db7057bb1620c6569838b310f36d", func := "loop.example/g01307/laws.FnExactAddGames", spec := "fnExactAddGames", recurses := true, apart := false }
def FnExactAddGamesSaid : Prop := fnExactAddGamesRow.holds Try.pinned (OpenSpec.ofChange fnExactAddGamesSpec)

/-- ITS FALSE NEIGHBOUR: 'it returns false'. Refute it at one input. -/
def fnExactAddGamesWrong : ChangeSpec := { name := "fnExactAddGames", fn := fun _ => fun
  | [d1, d2] => { results := [.lit (.bool false)], args := [d1, d2] }
  | _ => none }
def FnExactAddGamesWrongFalsely : Prop := fnExactAddGamesRow.holds Try.pinned (OpenSpec.ofChange fnExactAddGamesWrong)

/-- 'laws.FnSums': WHATEVER THE INPUT: true; the input reads as it did. -/
def fnSumsSpec : ChangeSpec := { name := "fnSums", fn := fun _ => fun
  | [d1, d2] => { results := [.lit (.bool true)], args := [d1, d2] }
  | _ => none }
def fnSumsRow : OpenClaim := { program := "yteinllalhiflcaa", sum := "70ef1670cf0a12f5118d64eabf7caa629107db7057bb1620c6569838b310f36d", func := "loop.example/g01307/laws.FnSums", spec := "fnSums", recurses := true, apart := false }
def FnSumsSaid : Prop := fnSumsRow.holds Try.pinned (OpenSpec.ofChange fnSumsSpec)

/-- ITS FALSE NEIGHBOUR: 'it returns false'. Refute it at one input. -/
def fnSumsWrong : ChangeSpec := { name := "fnSums", fn := fun _ => fun
  | [d1, d2] => { results := [.lit (.bool false)], args := [d1, d2] }
  | _ => none }
def FnSumsWrongFalsely : Prop := fnSumsRow.holds Try.pinned (OpenSpec.ofChange fnSumsWrong)

/-- 'laws.FnExactOctalMoves': WHATEVER THE INPUT: true; the input reads as it did. -/
def fnExactOctalMovesSpec : ChangeSpec := { name := "fnExactOctalMoves", fn := fun _ => fun
  | [d1, d2] => { results := [.lit (.bool true)], args := [d1, d2] }
  | _ => none }
def fnExactOctalMovesRow : OpenClaim := { program := "yteinllalhiflcaa", sum := "70ef1670cf0a12f5118d64eabf7caa629107db7057bb1620c6569838b310f36d", func := "loop.example/g01307/laws.FnExactOctalMoves", spec := "fnExactOctalMoves", unfollowed := true, recurses := true, apart := false }
def FnExactOctalMovesSaid : Prop := fnExactOctalMovesRow.holds Try.pinned (OpenSpec.ofChange fnExactOctalMovesSpec)

/-- ITS FALSE NEIGHBOUR: 'it returns false'. Refute it at one input. -/
def fnExactOctalMovesWrong : ChangeSpec := { name := "fnExactOctalMoves", fn := fun _ => fun
  | [d1, d2] => { results := [.lit (.bool false)], args := [d1, d2] }
  | _ => none }
def FnExactOctalMovesWrongFalsely : Prop := fnExactOctalMovesRow.holds Try.pinned (OpenSpec.ofChange fnExactOctalMovesWrong)

/-- 'laws.FnExactOctalValues': WHATEVER THE INPUT: true; the input reads as it did. -/
def fnExactOctalValuesSpec : ChangeSpec := { name := "fnExactOctalValues", fn := fun _ => fun
  | [d1, d2] => { results := [.lit (.bool true)], args := [d1, d2] }
  | _ => none }
def fnExactOctalValuesRow : OpenClaim := { program := "yteinllalhiflcaa", sum := "70ef1670cf0a12f5118d64eabf7caa629107db7057bb1620c6569838b310f36d", func := "loop.example/g01307/laws.FnExactOctalValues", spec := "fnExactOctalValues", unfollowed := true, recurses := true, apart := false }
def FnExactOctalValuesSaid : Prop := fnExactOctalValuesRow.holds Try.pinned (OpenSpec.ofChange fnExactOctalValuesSpec)

/-- ITS FALSE NEIGHBOUR: 'it returns false'. Refute it at one input. -/
def fnExactOctalValuesWrong : ChangeSpec := { name := "fnExactOctalValues", fn := fun _ => fun
  | [d1, d2] => { results := [.lit (.bool false)], args := [d1, d2] }
  | _ => none }
def FnExactOctalValuesWrongFalsely : Prop := fnExactOctalValuesRow.holds Try.pinned (OpenSpec.ofChange fnExactOctalValuesWrong)

/-- 'laws.FnOctals': WHATEVER THE INPUT: true; the input reads as it did. -/
def fnOctalsSpec : ChangeSpec := { name := "fnOctals", fn := fun _ => fun
  | [d1, d2] => { results := [.lit (.bool true)], args := [d1, d2] }
  | _ => none }
def fnOctalsRow : OpenClaim := { program := "yteinllalhiflcaa", sum := "70ef1670cf0a12f5118d64eabf7caa629107db7057bb1620c6569838b310f36d", func := "loop.example/g01307/laws.FnOctals", spec := "fnOctals", unfollowed := true, recurses := true, apart := false }
def FnOctalsSaid : Prop := fnOctalsRow.holds Try.pinned (OpenSpec.ofChange fnOctalsSpec)

/-- ITS FALSE NEIGHBOUR: 'it returns false'. Refute it at one input. -/
def fnOctalsWrong : ChangeSpec := { name := "fnOctals", fn := fun _ => fun
  | [d1, d2] => { results := [.lit (.bool false)], args := [d1, d2] }
  | _ => none }
def FnOctalsWrongFalsely : Prop := fnOctalsRow.holds Try.pinned (OpenSpec.ofChange fnOctalsWrong)

/- THE SECOND FORM. 'bulk': how many values and letters a reading holds, each counted each time it is reached (what is shared counts as often as it is met; a slice's spare places count too). A statement '..UptoSaid' is the law's where the arguments, and the package variables that the reading takes, are together of bulk at most 1048576: NARROWER than '..Said'. Prove '..Said' where nothing that the law and all that it calls make is longer than what came in: it says more and counts as full. Else prove '..UptoSaid'. A law counts once. -/
mutual
def uptoBulk {H : Type} : DataW H → Nat
  | .lit (.string bytes) => bytes.length + 1
  | .lit _ => 1
  | .nil => 1
  | .ptr d => uptoBulk d + 1
  | .slice elems spare => uptoBulkAll elems + uptoBulkAll spare + 1
  | .agg parts => uptoBulkAll parts + 1
  | .iface _ d => uptoBulk d + 1
  | .map entries => uptoBulkEntries entries + 1
  | .held _ => 1
def uptoBulkAll {H : Type} : List (DataW H) → Nat
  | [] => 0
  | d :: r => uptoBulk d + uptoBulkAll r
def uptoBulkEntries {H : Type} : List (Lit × DataW H) → Nat
  | [] => 0
  | x :: r => uptoBulkEntry x + uptoBulkEntries r
def uptoBulkEntry {H : Type} : Lit × DataW H → Nat
  | (.string bytes, d) => bytes.length + uptoBulk d + 1
  | (_, d) => uptoBulk d + 1
 end
def uptoSmall : (H : Type) → List (DataW H) → Bool := fun _ ds => decide (uptoBulkAll ds ≤ 1048576)
def OpenSpec.upto (s : _root_.Go.ChangeSpec) : _root_.Go.OpenSpec := { _root_.Go.OpenSpec.ofChange s with cond := some uptoSmall }

/-- 'laws.FnExactTakeMoves', WHERE WHAT IT READS IS OF BULK AT MOST 1048576: true; the input reads as it did. -/
def fnExactTakeMovesUptoRow : OpenClaim := { program := "yteinllalhiflcaa", sum := "70ef1670cf0a12f5118d64eabf7caa629107db7057bb1620c6569838b310f36d", func := "loop.example/g01307/laws.FnExactTakeMoves", spec := "fnExactTakeMoves", unfollowed := true, recurses := true, apart := false, narrowed := true }
def FnExactTakeMovesUptoSaid : Prop := fnExactTakeMovesUptoRow.holds Try.pinned (OpenSpec.upto fnExactTakeMovesSpec)

/-- 'laws.FnHeapsTaken', WHERE WHAT IT READS IS OF BULK AT MOST 1048576: true; the input reads as it did. -/
def fnHeapsTakenUptoRow : OpenClaim := { program := "yteinllalhiflcaa", sum := "70ef1670cf0a12f5118d64eabf7caa629107db7057bb1620c6569838b310f36d", func := "loop.example/g01307/laws.FnHeapsTaken", spec := "fnHeapsTaken", unfollowed := true, recurses := true, apart := false, narrowed := true }
def FnHeapsTakenUptoSaid : Prop := fnHeapsTakenUptoRow.holds Try.pinned (OpenSpec.upto fnHeapsTakenSpec)

/-- 'laws.FnExactAddGames', WHERE WHAT IT READS IS OF BULK AT MOST 1048576: true; the input reads as it did. -/
def fnExactAddGamesUptoRow : OpenClaim := { program := "yteinllalhiflcaa", sum := "70ef1670cf0a12f5118d64eabf7caa629107db7057bb1620c6569838b310f36d", func := "loop.example/g01307/laws.FnExactAddGames", spec := "fnExactAddGames", recurses := true, apart := false, narrowed := true }
def FnExactAddGamesUptoSaid : Prop := fnExactAddGamesUptoRow.holds Try.pinned (OpenSpec.upto fnExactAddGamesSpec)

/-- 'laws.FnSums', WHERE WHAT IT READS IS OF BULK AT MOST 1048576: true; the input reads as it did. -/
def fnSumsUptoRow : OpenClaim := { program := "yteinllalhiflcaa", sum := "70ef1670cf0a12f5118d64eabf7caa629107db7057bb1620c6569838b310f36d", func := "loop.example/g01307/laws.FnSums", spec := "fnSums", recurses := true, apart := false, narrowed := true }
def FnSumsUptoSaid : Prop := fnSumsUptoRow.holds Try.pinned (OpenSpec.upto fnSumsSpec)

/-- 'laws.FnExactOctalMoves', WHERE WHAT IT READS IS OF BULK AT MOST 1048576: true; the input reads as it did. -/
def fnExactOctalMovesUptoRow : OpenClaim := { program := "yteinllalhiflcaa", sum := "70ef1670cf0a12f5118d64eabf7caa629107db7057bb1620c6569838b310f36d", func := "loop.example/g01307/laws.FnExactOctalMoves", spec := "fnExactOctalMoves", unfollowed := true, recurses := true, apart := false, narrowed := true }
def FnExactOctalMovesUptoSaid : Prop := fnExactOctalMovesUptoRow.holds Try.pinned (OpenSpec.upto fnExactOctalMovesSpec)

/-- 'laws.FnExactOctalValues', WHERE WHAT IT READS IS OF BULK AT MOST 1048576: true; the input reads as it did. -/
def fnExactOctalValuesUptoRow : OpenClaim := { program := "yteinllalhiflcaa", sum := "70ef1670cf0a12f5118d64eabf7caa629107db7057bb1620c6569838b310f36d", func := "loop.example/g01307/laws.FnExactOctalValues", spec := "fnExactOctalValues", unfollowed := true, recurses := true, apart := false, narrowed := true }
def FnExactOctalValuesUptoSaid : Prop := fnExactOctalValuesUptoRow.holds Try.pinned (OpenSpec.upto fnExactOctalValuesSpec)

/-- 'laws.FnOctals', WHERE WHAT IT READS IS OF BULK AT MOST 1048576: true; the input reads as it did. -/
def fnOctalsUptoRow : OpenClaim := { program := "yteinllalhiflcaa", sum := "70ef1670cf0a12f5118d64eabf7caa629107db7057bb1620c6569838b310f36d", func := "loop.example/g01307/laws.FnOctals", spec := "fnOctals", unfollowed := true, recurses := true, apart := false, narrowed := true }
def FnOctalsUptoSaid : Prop := fnOctalsUptoRow.holds Try.pinned (OpenSpec.upto fnOctalsSpec)

end Rows
end Go.Proofs.Yteinllalhiflcaa
