/-
  No cell of these rows narrows 'for every input' (looked for: loops, veiled, ifaces, maps, wideKeys, modest, calm, conditions, laid).
  DERIVED. THE GIVEN ROWS OF THIS SEAT. 12 by the template 'for every input the law returns true; each argument reads behind the call as it read before'; 0 by the template 'total and deterministic' (their statements: YtbhjkaiiebpopaaTotals.lean).
  GIVEN WITH THE SEED: the statements are not yours to turn. If you find one false, say at which input.
  Laid BY PROGRAM, IN A SANDBOX (cutbox-rows.mjs): the forced cells as the released guide's own fill.sh prints them over the translation b241165608b42ce1… (all of the seat's roots in one cut). By AI agents, Wed Nov 11 2026. No macro, syntax, notation, axiom, sorry.
-/
import Derived.Test.YtbhjkaiiebpopaaChecked
import GoSem.Claim
import GoSem.ClaimJoined
import GoSem.ClaimMapViews
import Derived.JoinedTies
import Derived.KernelRfl
namespace Go.Proofs.Ytbhjkaiiebpopaa
/- THE CELL 'sum', in the pinned program and in every row, IS THE sha256 OF THE DUMP (.gsa) THAT YtbhjkaiiebpopaaProg.lean LOADS. Nothing in Lean hashes anything: it is a label: what it is worth is what the hold of that sum in a sandbox is worth. -/
noncomputable def Try.pinned : Pinned := { name := "ytbhjkaiiebpopaa", sum := "b241165608b42ce104bf2ac3664e25a4430ca9085d55eb8d84befe9adb008b0e", checked := Try.checked }
namespace Rows
def none {H : Type} : Left H := { results := [], args := [] }

/-- 'laws.FnExactValidGame': WHATEVER THE INPUT: true; the input reads as it did. -/
def fnExactValidGameSpec : ChangeSpec := { name := "fnExactValidGame", fn := fun _ => fun
  | [d] => { results := [.lit (.bool true)], args := [d] }
  | _ => none }
def fnExactValidGameRow : OpenClaim := { program := "ytbhjkaiiebpopaa", sum := "b241165608b42ce104bf2ac3664e25a4430ca9085d55eb8d84befe9adb008b0e", func := "loop.example/g01307/laws.FnExactValidGame", spec := "fnExactValidGame", apart := false }
def FnExactValidGameSaid : Prop := fnExactValidGameRow.holds Try.pinned (OpenSpec.ofChange fnExactValidGameSpec)

/-- ITS FALSE NEIGHBOUR: 'it returns false'. Refute it at one input. -/
def fnExactValidGameWrong : ChangeSpec := { name := "fnExactValidGame", fn := fun _ => fun
  | [d] => { results := [.lit (.bool false)], args := [d] }
  | _ => none }
def FnExactValidGameWrongFalsely : Prop := fnExactValidGameRow.holds Try.pinned (OpenSpec.ofChange fnExactValidGameWrong)

/-- 'laws.FnExactHeapGame': WHATEVER THE INPUT: true; the input reads as it did. -/
def fnExactHeapGameSpec : ChangeSpec := { name := "fnExactHeapGame", fn := fun _ => fun
  | [d] => { results := [.lit (.bool true)], args := [d] }
  | _ => none }
def fnExactHeapGameRow : OpenClaim := { program := "ytbhjkaiiebpopaa", sum := "b241165608b42ce104bf2ac3664e25a4430ca9085d55eb8d84befe9adb008b0e", func := "loop.example/g01307/laws.FnExactHeapGame", spec := "fnExactHeapGame", apart := false }
def FnExactHeapGameSaid : Prop := fnExactHeapGameRow.holds Try.pinned (OpenSpec.ofChange fnExactHeapGameSpec)

/-- ITS FALSE NEIGHBOUR: 'it returns false'. Refute it at one input. -/
def fnExactHeapGameWrong : ChangeSpec := { name := "fnExactHeapGame", fn := fun _ => fun
  | [d] => { results := [.lit (.bool false)], args := [d] }
  | _ => none }
def FnExactHeapGameWrongFalsely : Prop := fnExactHeapGameRow.holds Try.pinned (OpenSpec.ofChange fnExactHeapGameWrong)

/-- 'laws.FnExactTakeValues': WHATEVER THE INPUT: true; the input reads as it did. -/
def fnExactTakeValuesSpec : ChangeSpec := { name := "fnExactTakeValues", fn := fun _ => fun
  | [d1, d2] => { results := [.lit (.bool true)], args := [d1, d2] }
  | _ => none }
def fnExactTakeValuesRow : OpenClaim := { program := "ytbhjkaiiebpopaa", sum := "b241165608b42ce104bf2ac3664e25a4430ca9085d55eb8d84befe9adb008b0e", func := "loop.example/g01307/laws.FnExactTakeValues", spec := "fnExactTakeValues", apart := false }
def FnExactTakeValuesSaid : Prop := fnExactTakeValuesRow.holds Try.pinned (OpenSpec.ofChange fnExactTakeValuesSpec)

/-- ITS FALSE NEIGHBOUR: 'it returns false'. Refute it at one input. -/
def fnExactTakeValuesWrong : ChangeSpec := { name := "fnExactTakeValues", fn := fun _ => fun
  | [d1, d2] => { results := [.lit (.bool false)], args := [d1, d2] }
  | _ => none }
def FnExactTakeValuesWrongFalsely : Prop := fnExactTakeValuesRow.holds Try.pinned (OpenSpec.ofChange fnExactTakeValuesWrong)

/-- 'laws.FnExactTakePeriod': WHATEVER THE INPUT: true; the input reads as it did. -/
def fnExactTakePeriodSpec : ChangeSpec := { name := "fnExactTakePeriod", fn := fun _ => fun
  | [d] => { results := [.lit (.bool true)], args := [d] }
  | _ => none }
def fnExactTakePeriodRow : OpenClaim := { program := "ytbhjkaiiebpopaa", sum := "b241165608b42ce104bf2ac3664e25a4430ca9085d55eb8d84befe9adb008b0e", func := "loop.example/g01307/laws.FnExactTakePeriod", spec := "fnExactTakePeriod", apart := false }
def FnExactTakePeriodSaid : Prop := fnExactTakePeriodRow.holds Try.pinned (OpenSpec.ofChange fnExactTakePeriodSpec)

/-- ITS FALSE NEIGHBOUR: 'it returns false'. Refute it at one input. -/
def fnExactTakePeriodWrong : ChangeSpec := { name := "fnExactTakePeriod", fn := fun _ => fun
  | [d] => { results := [.lit (.bool false)], args := [d] }
  | _ => none }
def FnExactTakePeriodWrongFalsely : Prop := fnExactTakePeriodRow.holds Try.pinned (OpenSpec.ofChange fnExactTakePeriodWrong)

/-- 'laws.FnExactLongestPlay': WHATEVER THE INPUT: true; the input reads as it did. -/
def fnExactLongestPlaySpec : ChangeSpec := { name := "fnExactLongestPlay", fn := fun _ => fun
  | [d1, d2] => { results := [.lit (.bool true)], args := [d1, d2] }
  | _ => none }
def fnExactLongestPlayRow : OpenClaim := { program := "ytbhjkaiiebpopaa", sum := "b241165608b42ce104bf2ac3664e25a4430ca9085d55eb8d84befe9adb008b0e", func := "loop.example/g01307/laws.FnExactLongestPlay", spec := "fnExactLongestPlay", unfollowed := true, recurses := true, apart := false }
def FnExactLongestPlaySaid : Prop := fnExactLongestPlayRow.holds Try.pinned (OpenSpec.ofChange fnExactLongestPlaySpec)

/-- ITS FALSE NEIGHBOUR: 'it returns false'. Refute it at one input. -/
def fnExactLongestPlayWrong : ChangeSpec := { name := "fnExactLongestPlay", fn := fun _ => fun
  | [d1, d2] => { results := [.lit (.bool false)], args := [d1, d2] }
  | _ => none }
def FnExactLongestPlayWrongFalsely : Prop := fnExactLongestPlayRow.holds Try.pinned (OpenSpec.ofChange fnExactLongestPlayWrong)

/-- 'laws.FnExactValueAt': WHATEVER THE INPUT: true; the input reads as it did. -/
def fnExactValueAtSpec : ChangeSpec := { name := "fnExactValueAt", fn := fun _ => fun
  | [d1, d2] => { results := [.lit (.bool true)], args := [d1, d2] }
  | _ => none }
def fnExactValueAtRow : OpenClaim := { program := "ytbhjkaiiebpopaa", sum := "b241165608b42ce104bf2ac3664e25a4430ca9085d55eb8d84befe9adb008b0e", func := "loop.example/g01307/laws.FnExactValueAt", spec := "fnExactValueAt", unfollowed := true, recurses := true, apart := false }
def FnExactValueAtSaid : Prop := fnExactValueAtRow.holds Try.pinned (OpenSpec.ofChange fnExactValueAtSpec)

/-- ITS FALSE NEIGHBOUR: 'it returns false'. Refute it at one input. -/
def fnExactValueAtWrong : ChangeSpec := { name := "fnExactValueAt", fn := fun _ => fun
  | [d1, d2] => { results := [.lit (.bool false)], args := [d1, d2] }
  | _ => none }
def FnExactValueAtWrongFalsely : Prop := fnExactValueAtRow.holds Try.pinned (OpenSpec.ofChange fnExactValueAtWrong)

/-- 'laws.FnExactCheckValues': WHATEVER THE INPUT: true; the input reads as it did. -/
def fnExactCheckValuesSpec : ChangeSpec := { name := "fnExactCheckValues", fn := fun _ => fun
  | [d1, d2] => { results := [.lit (.bool true)], args := [d1, d2] }
  | _ => none }
def fnExactCheckValuesRow : OpenClaim := { program := "ytbhjkaiiebpopaa", sum := "b241165608b42ce104bf2ac3664e25a4430ca9085d55eb8d84befe9adb008b0e", func := "loop.example/g01307/laws.FnExactCheckValues", spec := "fnExactCheckValues", apart := false }
def FnExactCheckValuesSaid : Prop := fnExactCheckValuesRow.holds Try.pinned (OpenSpec.ofChange fnExactCheckValuesSpec)

/-- ITS FALSE NEIGHBOUR: 'it returns false'. Refute it at one input. -/
def fnExactCheckValuesWrong : ChangeSpec := { name := "fnExactCheckValues", fn := fun _ => fun
  | [d1, d2] => { results := [.lit (.bool false)], args := [d1, d2] }
  | _ => none }
def FnExactCheckValuesWrongFalsely : Prop := fnExactCheckValuesRow.holds Try.pinned (OpenSpec.ofChange fnExactCheckValuesWrong)

/-- 'laws.FnExactValuesOf': WHATEVER THE INPUT: true; the input reads as it did. -/
def fnExactValuesOfSpec : ChangeSpec := { name := "fnExactValuesOf", fn := fun _ => fun
  | [d] => { results := [.lit (.bool true)], args := [d] }
  | _ => none }
def fnExactValuesOfRow : OpenClaim := { program := "ytbhjkaiiebpopaa", sum := "b241165608b42ce104bf2ac3664e25a4430ca9085d55eb8d84befe9adb008b0e", func := "loop.example/g01307/laws.FnExactValuesOf", spec := "fnExactValuesOf", apart := false }
def FnExactValuesOfSaid : Prop := fnExactValuesOfRow.holds Try.pinned (OpenSpec.ofChange fnExactValuesOfSpec)

/-- ITS FALSE NEIGHBOUR: 'it returns false'. Refute it at one input. -/
def fnExactValuesOfWrong : ChangeSpec := { name := "fnExactValuesOf", fn := fun _ => fun
  | [d] => { results := [.lit (.bool false)], args := [d] }
  | _ => none }
def FnExactValuesOfWrongFalsely : Prop := fnExactValuesOfRow.holds Try.pinned (OpenSpec.ofChange fnExactValuesOfWrong)

/-- 'laws.FnExactFirstBroken': WHATEVER THE INPUT: true; the input reads as it did. -/
def fnExactFirstBrokenSpec : ChangeSpec := { name := "fnExactFirstBroken", fn := fun _ => fun
  | [d1, d2] => { results := [.lit (.bool true)], args := [d1, d2] }
  | _ => none }
def fnExactFirstBrokenRow : OpenClaim := { program := "ytbhjkaiiebpopaa", sum := "b241165608b42ce104bf2ac3664e25a4430ca9085d55eb8d84befe9adb008b0e", func := "loop.example/g01307/laws.FnExactFirstBroken", spec := "fnExactFirstBroken", apart := false }
def FnExactFirstBrokenSaid : Prop := fnExactFirstBrokenRow.holds Try.pinned (OpenSpec.ofChange fnExactFirstBrokenSpec)

/-- ITS FALSE NEIGHBOUR: 'it returns false'. Refute it at one input. -/
def fnExactFirstBrokenWrong : ChangeSpec := { name := "fnExactFirstBroken", fn := fun _ => fun
  | [d1, d2] => { results := [.lit (.bool false)], args := [d1, d2] }
  | _ => none }
def FnExactFirstBrokenWrongFalsely : Prop := fnExactFirstBrokenRow.holds Try.pinned (OpenSpec.ofChange fnExactFirstBrokenWrong)

/-- 'laws.FnExactSumAt': WHATEVER THE INPUT: true; the input reads as it did. -/
def fnExactSumAtSpec : ChangeSpec := { name := "fnExactSumAt", fn := fun _ => fun
  | [d1, d2] => { results := [.lit (.bool true)], args := [d1, d2] }
  | _ => none }
def fnExactSumAtRow : OpenClaim := { program := "ytbhjkaiiebpopaa", sum := "b241165608b42ce104bf2ac3664e25a4430ca9085d55eb8d84befe9adb008b0e", func := "loop.example/g01307/laws.FnExactSumAt", spec := "fnExactSumAt", unfollowed := true, recurses := true, apart := false }
def FnExactSumAtSaid : Prop := fnExactSumAtRow.holds Try.pinned (OpenSpec.ofChange fnExactSumAtSpec)

/-- ITS FALSE NEIGHBOUR: 'it returns false'. Refute it at one input. -/
def fnExactSumAtWrong : ChangeSpec := { name := "fnExactSumAt", fn := fun _ => fun
  | [d1, d2] => { results := [.lit (.bool false)], args := [d1, d2] }
  | _ => none }
def FnExactSumAtWrongFalsely : Prop := fnExactSumAtRow.holds Try.pinned (OpenSpec.ofChange fnExactSumAtWrong)

/-- 'laws.FnExactSameGame': WHATEVER THE INPUT: true; the input reads as it did. -/
def fnExactSameGameSpec : ChangeSpec := { name := "fnExactSameGame", fn := fun _ => fun
  | [d1, d2] => { results := [.lit (.bool true)], args := [d1, d2] }
  | _ => none }
def fnExactSameGameRow : OpenClaim := { program := "ytbhjkaiiebpopaa", sum := "b241165608b42ce104bf2ac3664e25a4430ca9085d55eb8d84befe9adb008b0e", func := "loop.example/g01307/laws.FnExactSameGame", spec := "fnExactSameGame", unfollowed := true, recurses := true, apart := false }
def FnExactSameGameSaid : Prop := fnExactSameGameRow.holds Try.pinned (OpenSpec.ofChange fnExactSameGameSpec)

/-- ITS FALSE NEIGHBOUR: 'it returns false'. Refute it at one input. -/
def fnExactSameGameWrong : ChangeSpec := { name := "fnExactSameGame", fn := fun _ => fun
  | [d1, d2] => { results := [.lit (.bool false)], args := [d1, d2] }
  | _ => none }
def FnExactSameGameWrongFalsely : Prop := fnExactSameGameRow.holds Try.pinned (OpenSpec.ofChange fnExactSameGameWrong)

/-- 'laws.FnExactWinningMoves': WHATEVER THE INPUT: true; the input reads as it did. -/
def fnExactWinningMovesSpec : ChangeSpec := { name := "fnExactWinningMoves", fn := fun _ => fun
  | [d1, d2] => { results := [.lit (.bool true)], args := [d1, d2] }
  | _ => none }
def fnExactWinningMovesRow : OpenClaim := { program := "ytbhjkaiiebpopaa", sum := "b241165608b42ce104bf2ac3664e25a4430ca9085d55eb8d84befe9adb008b0e", func := "loop.example/g01307/laws.FnExactWinningMoves", spec := "fnExactWinningMoves", unfollowed := true, recurses := true, apart := false }
def FnExactWinningMovesSaid : Prop := fnExactWinningMovesRow.holds Try.pinned (OpenSpec.ofChange fnExactWinningMovesSpec)

/-- ITS FALSE NEIGHBOUR: 'it returns false'. Refute it at one input. -/
def fnExactWinningMovesWrong : ChangeSpec := { name := "fnExactWinningMoves", fn := fun _ => fun
  | [d1, d2] => { results := [.lit (.bool false)], args := [d1, d2] }
  | _ => none }
def FnExactWinningMovesWrongFalsely : Prop := fnExactWinningMovesRow.holds Try.pinned (OpenSpec.ofChange fnExactWinningMovesWrong)

/- THE SECOND FORM. 'bulk': how many values and letters a reading holds, each counted each time it is reached (what is shared counts as often as it is met; a slice's spare places count too). A statement '..UptoSaid' is the law's where the arguments, and the package variables that the reading takes, are together of bulk at most 1048576: NARROWER than '..Said'. Prove '..Said' where nothing that the law and all that it calls make is longer than what came in: it says more and counts as full. Else prove '..UptoSaid'. A law counts once. -/
mutual
def uptoBulk {H : Type} : DataW H → Nat
  | .lit (.string bytes) => bytes.length + 1
  | .lit _ => 1
  | .nil => 1
  | .ptr d => uptoBulk d + 1
  | .slice elems spare => uptoBulkAll elems + uptoBulkAll spare + 1
  | .agg parts => uptoBulkAll parts + 1
  | .iface _ d => uptoBulk d + 1
  | .map entries => uptoBulkEntries entries + 1
  | .held _ => 1
def uptoBulkAll {H : Type} : List (DataW H) → Nat
  | [] => 0
  | d :: r => uptoBulk d + uptoBulkAll r
def uptoBulkEntries {H : Type} : List (Lit × DataW H) → Nat
  | [] => 0
  | x :: r => uptoBulkEntry x + uptoBulkEntries r
def uptoBulkEntry {H : Type} : Lit × DataW H → Nat
  | (.string bytes, d) => bytes.length + uptoBulk d + 1
  | (_, d) => uptoBulk d + 1
 end
def uptoSmall : (H : Type) → List (DataW H) → Bool := fun _ ds => decide (uptoBulkAll ds ≤ 1048576)
def OpenSpec.upto (s : _root_.Go.ChangeSpec) : _root_.Go.OpenSpec := { _root_.Go.OpenSpec.ofChange s with cond := some uptoSmall }

/-- 'laws.FnExactValidGame', WHERE WHAT IT READS IS OF BULK AT MOST 1048576: true; the input reads as it did. -/
def fnExactValidGameUptoRow : OpenClaim := { program := "ytbhjkaiiebpopaa", sum := "b241165608b42ce104bf2ac3664e25a4430ca9085d55eb8d84befe9adb008b0e", func := "loop.example/g01307/laws.FnExactValidGame", spec := "fnExactValidGame", apart := false, narrowed := true }
def FnExactValidGameUptoSaid : Prop := fnExactValidGameUptoRow.holds Try.pinned (OpenSpec.upto fnExactValidGameSpec)

/-- 'laws.FnExactHeapGame', WHERE WHAT IT READS IS OF BULK AT MOST 1048576: true; the input reads as it did. -/
def fnExactHeapGameUptoRow : OpenClaim := { program := "ytbhjkaiiebpopaa", sum := "b241165608b42ce104bf2ac3664e25a4430ca9085d55eb8d84befe9adb008b0e", func := "loop.example/g01307/laws.FnExactHeapGame", spec := "fnExactHeapGame", apart := false, narrowed := true }
def FnExactHeapGameUptoSaid : Prop := fnExactHeapGameUptoRow.holds Try.pinned (OpenSpec.upto fnExactHeapGameSpec)

/-- 'laws.FnExactTakeValues', WHERE WHAT IT READS IS OF BULK AT MOST 1048576: true; the input reads as it did. -/
def fnExactTakeValuesUptoRow : OpenClaim := { program := "ytbhjkaiiebpopaa", sum := "b241165608b42ce104bf2ac3664e25a4430ca9085d55eb8d84befe9adb008b0e", func := "loop.example/g01307/laws.FnExactTakeValues", spec := "fnExactTakeValues", apart := false, narrowed := true }
def FnExactTakeValuesUptoSaid : Prop := fnExactTakeValuesUptoRow.holds Try.pinned (OpenSpec.upto fnExactTakeValuesSpec)

/-- 'laws.FnExactTakePeriod', WHERE WHAT IT READS IS OF BULK AT MOST 1048576: true; the input reads as it did. -/
def fnExactTakePeriodUptoRow : OpenClaim := { program := "ytbhjkaiiebpopaa", sum := "b241165608b42ce104bf2ac3664e25a4430ca9085d55eb8d84befe9adb008b0e", func := "loop.example/g01307/laws.FnExactTakePeriod", spec := "fnExactTakePeriod", apart := false, narrowed := true }
def FnExactTakePeriodUptoSaid : Prop := fnExactTakePeriodUptoRow.holds Try.pinned (OpenSpec.upto fnExactTakePeriodSpec)

/-- 'laws.FnExactLongestPlay', WHERE WHAT IT READS IS OF BULK AT MOST 1048576: true; the input reads as it did. -/
def fnExactLongestPlayUptoRow : OpenClaim := { program := "ytbhjkaiiebpopaa", sum := "b241165608b42ce104bf2ac3664e25a4430ca9085d55eb8d84befe9adb008b0e", func := "loop.example/g01307/laws.FnExactLongestPlay", spec := "fnExactLongestPlay", unfollowed := true, recurses := true, apart := false, narrowed := true }
def FnExactLongestPlayUptoSaid : Prop := fnExactLongestPlayUptoRow.holds Try.pinned (OpenSpec.upto fnExactLongestPlaySpec)

/-- 'laws.FnExactValueAt', WHERE WHAT IT READS IS OF BULK AT MOST 1048576: true; the input reads as it did. -/
def fnExactValueAtUptoRow : OpenClaim := { program := "ytbhjkaiiebpopaa", sum := "b241165608b42ce104bf2ac3664e25a4430ca9085d55eb8d84befe9adb008b0e", func := "loop.example/g01307/laws.FnExactValueAt", spec := "fnExactValueAt", unfollowed := true, recurses := true, apart := false, narrowed := true }
def FnExactValueAtUptoSaid : Prop := fnExactValueAtUptoRow.holds Try.pinned (OpenSpec.upto fnExactValueAtSpec)

/-- 'laws.FnExactCheckValues', WHERE WHAT IT READS IS OF BULK AT MOST 1048576: true; the input reads as it did. -/
def fnExactCheckValuesUptoRow : OpenClaim := { program := "ytbhjkaiiebpopaa", sum := "b241165608b42ce104bf2ac3664e25a4430ca9085d55eb8d84befe9adb008b0e", func := "loop.example/g01307/laws.FnExactCheckValues", spec := "fnExactCheckValues", apart := false, narrowed := true }
def FnExactCheckValuesUptoSaid : Prop := fnExactCheckValuesUptoRow.holds Try.pinned (OpenSpec.upto fnExactCheckValuesSpec)

/-- 'laws.FnExactValuesOf', WHERE WHAT IT READS IS OF BULK AT MOST 1048576: true; the input reads as it did. -/
def fnExactValuesOfUptoRow : OpenClaim := { program := "ytbhjkaiiebpopaa", sum := "b241165608b42ce104bf2ac3664e25a4430ca9085d55eb8d84befe9adb008b0e", func := "loop.example/g01307/laws.FnExactValuesOf", spec := "fnExactValuesOf", apart := false, narrowed := true }
def FnExactValuesOfUptoSaid : Prop := fnExactValuesOfUptoRow.holds Try.pinned (OpenSpec.upto fnExactValuesOfSpec)

/-- 'laws.FnExactFirstBroken', WHERE WHAT IT READS IS OF BULK AT MOST 1048576: true; the input reads as it did. -/
def fnExactFirstBrokenUptoRow : OpenClaim := { program := "ytbhjkaiiebpopaa", sum := "b241165608b42ce104bf2ac3664e25a4430ca9085d55eb8d84befe9adb008b0e", func := "loop.example/g01307/laws.FnExactFirstBroken", spec := "fnExactFirstBroken", apart := false, narrowed := true }
def FnExactFirstBrokenUptoSaid : Prop := fnExactFirstBrokenUptoRow.holds Try.pinned (OpenSpec.upto fnExactFirstBrokenSpec)

/-- 'laws.FnExactSumAt', WHERE WHAT IT READS IS OF BULK AT MOST 1048576: true; the input reads as it did. -/
def fnExactSumAtUptoRow : OpenClaim := { program := "ytbhjkaiiebpopaa", sum := "b241165608b42ce104bf2ac3664e25a4430ca9085d55eb8d84befe9adb008b0e", func := "loop.example/g01307/laws.FnExactSumAt", spec := "fnExactSumAt", unfollowed := true, recurses := true, apart := false, narrowed := true }
def FnExactSumAtUptoSaid : Prop := fnExactSumAtUptoRow.holds Try.pinned (OpenSpec.upto fnExactSumAtSpec)

/-- 'laws.FnExactSameGame', WHERE WHAT IT READS IS OF BULK AT MOST 1048576: true; the input reads as it did. -/
def fnExactSameGameUptoRow : OpenClaim := { program := "ytbhjkaiiebpopaa", sum := "b241165608b42ce104bf2ac3664e25a4430ca9085d55eb8d84befe9adb008b0e", func := "loop.example/g01307/laws.FnExactSameGame", spec := "fnExactSameGame", unfollowed := true, recurses := true, apart := false, narrowed := true }
def FnExactSameGameUptoSaid : Prop := fnExactSameGameUptoRow.holds Try.pinned (OpenSpec.upto fnExactSameGameSpec)

/-- 'laws.FnExactWinningMoves', WHERE WHAT IT READS IS OF BULK AT MOST 1048576: true; the input reads as it did. -/
def fnExactWinningMovesUptoRow : OpenClaim := { program := "ytbhjkaiiebpopaa", sum := "b241165608b42ce104bf2ac3664e25a4430ca9085d55eb8d84befe9adb008b0e", func := "loop.example/g01307/laws.FnExactWinningMoves", spec := "fnExactWinningMoves", unfollowed := true, recurses := true, apart := false, narrowed := true }
def FnExactWinningMovesUptoSaid : Prop := fnExactWinningMovesUptoRow.holds Try.pinned (OpenSpec.upto fnExactWinningMovesSpec)

end Rows
end Go.Proofs.Ytbhjkaiiebpopaa
