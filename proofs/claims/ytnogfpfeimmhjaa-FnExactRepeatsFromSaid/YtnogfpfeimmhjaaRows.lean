/-
  No cell of these rows narrows 'for every input' (looked for: loops, veiled, ifaces, maps, wideKeys, modest, calm, conditions, laid).
  DERIVED. THE GIVEN ROWS OF THIS SEAT. 12 by the template 'for every input the law returns true; each argument reads behind the call as it read before'; 0 by the template 'total and deterministic' (their statements: YtnogfpfeimmhjaaTotals.lean).
  GIVEN WITH THE SEED: the statements are not yours to turn. If you find one false, say at which input.
  Laid BY PROGRAM, IN A SANDBOX (cutbox-rows.mjs): the forced cells as the released guide's own fill.sh prints them over the translation 70a181ffd06b4b27… (all of the seat's roots in one cut). By AI agents, Wed Nov 11 2026. No macro, syntax, notation, axiom, sorry.
-/
import Derived.Test.YtnogfpfeimmhjaaChecked
import GoSem.Claim
import GoSem.ClaimJoined
import GoSem.ClaimMapViews
import Derived.JoinedTies
import Derived.KernelRfl
namespace Go.Proofs.Ytnogfpfeimmhjaa
/- THE CELL 'sum', in the pinned program and in every row, IS THE sha256 OF THE DUMP (.gsa) THAT YtnogfpfeimmhjaaProg.lean LOADS. Nothing in Lean hashes anything: it is a label: what it is worth is what the hold of that sum in a sandbox is worth. -/
noncomputable def Try.pinned : Pinned := { name := "ytnogfpfeimmhjaa", sum := "70a181ffd06b4b274496153451ef761dfd433f694011c0a22bf7e89b1262013a", checked := Try.checked }
namespace Rows
def none {H : Type} : Left H := { results := [], args := [] }

/-- 'laws.FnExactConstants': WHATEVER THE INPUT: true; the input reads as it did. -/
def fnExactConstantsSpec : ChangeSpec := { name := "fnExactConstants", fn := fun _ => fun
  | [] => { results := [.lit (.bool true)], args := [] }
  | _ => none }
def fnExactConstantsRow : OpenClaim := { program := "ytnogfpfeimmhjaa", sum := "70a181ffd06b4b274496153451ef761dfd433f694011c0a22bf7e89b1262013a", func := "loop.example/g01307/laws.FnExactConstants", spec := "fnExactConstants", apart := false }
def FnExactConstantsSaid : Prop := fnExactConstantsRow.holds Try.pinned (OpenSpec.ofChange fnExactConstantsSpec)

/-- ITS FALSE NEIGHBOUR: 'it returns false'. Refute it at one input. -/
def fnExactConstantsWrong : ChangeSpec := { name := "fnExactConstants", fn := fun _ => fun
  | [] => { results := [.lit (.bool false)], args := [] }
  | _ => none }
def FnExactConstantsWrongFalsely : Prop := fnExactConstantsRow.holds Try.pinned (OpenSpec.ofChange fnExactConstantsWrong)

/-- 'laws.FnExactPlusNim': WHATEVER THE INPUT: true; the input reads as it did. -/
def fnExactPlusNimSpec : ChangeSpec := { name := "fnExactPlusNim", fn := fun _ => fun
  | [d1, d2] => { results := [.lit (.bool true)], args := [d1, d2] }
  | _ => none }
def fnExactPlusNimRow : OpenClaim := { program := "ytnogfpfeimmhjaa", sum := "70a181ffd06b4b274496153451ef761dfd433f694011c0a22bf7e89b1262013a", func := "loop.example/g01307/laws.FnExactPlusNim", spec := "fnExactPlusNim", apart := false }
def FnExactPlusNimSaid : Prop := fnExactPlusNimRow.holds Try.pinned (OpenSpec.ofChange fnExactPlusNimSpec)

/-- ITS FALSE NEIGHBOUR: 'it returns false'. Refute it at one input. -/
def fnExactPlusNimWrong : ChangeSpec := { name := "fnExactPlusNim", fn := fun _ => fun
  | [d1, d2] => { results := [.lit (.bool false)], args := [d1, d2] }
  | _ => none }
def FnExactPlusNimWrongFalsely : Prop := fnExactPlusNimRow.holds Try.pinned (OpenSpec.ofChange fnExactPlusNimWrong)

/-- 'laws.FnExactCodeName': WHATEVER THE INPUT: true; the input reads as it did. -/
def fnExactCodeNameSpec : ChangeSpec := { name := "fnExactCodeName", fn := fun _ => fun
  | [d] => { results := [.lit (.bool true)], args := [d] }
  | _ => none }
def fnExactCodeNameRow : OpenClaim := { program := "ytnogfpfeimmhjaa", sum := "70a181ffd06b4b274496153451ef761dfd433f694011c0a22bf7e89b1262013a", func := "loop.example/g01307/laws.FnExactCodeName", spec := "fnExactCodeName", apart := false }
def FnExactCodeNameSaid : Prop := fnExactCodeNameRow.holds Try.pinned (OpenSpec.ofChange fnExactCodeNameSpec)

/-- ITS FALSE NEIGHBOUR: 'it returns false'. Refute it at one input. -/
def fnExactCodeNameWrong : ChangeSpec := { name := "fnExactCodeName", fn := fun _ => fun
  | [d] => { results := [.lit (.bool false)], args := [d] }
  | _ => none }
def FnExactCodeNameWrongFalsely : Prop := fnExactCodeNameRow.holds Try.pinned (OpenSpec.ofChange fnExactCodeNameWrong)

/-- 'laws.FnExactLevelOf': WHATEVER THE INPUT: true; the input reads as it did. -/
def fnExactLevelOfSpec : ChangeSpec := { name := "fnExactLevelOf", fn := fun _ => fun
  | [d] => { results := [.lit (.bool true)], args := [d] }
  | _ => none }
def fnExactLevelOfRow : OpenClaim := { program := "ytnogfpfeimmhjaa", sum := "70a181ffd06b4b274496153451ef761dfd433f694011c0a22bf7e89b1262013a", func := "loop.example/g01307/laws.FnExactLevelOf", spec := "fnExactLevelOf", apart := false }
def FnExactLevelOfSaid : Prop := fnExactLevelOfRow.holds Try.pinned (OpenSpec.ofChange fnExactLevelOfSpec)

/-- ITS FALSE NEIGHBOUR: 'it returns false'. Refute it at one input. -/
def fnExactLevelOfWrong : ChangeSpec := { name := "fnExactLevelOf", fn := fun _ => fun
  | [d] => { results := [.lit (.bool false)], args := [d] }
  | _ => none }
def FnExactLevelOfWrongFalsely : Prop := fnExactLevelOfRow.holds Try.pinned (OpenSpec.ofChange fnExactLevelOfWrong)

/-- 'laws.FnExactRowText': WHATEVER THE INPUT: true; the input reads as it did. -/
def fnExactRowTextSpec : ChangeSpec := { name := "fnExactRowText", fn := fun _ => fun
  | [d1, d2] => { results := [.lit (.bool true)], args := [d1, d2] }
  | _ => none }
def fnExactRowTextRow : OpenClaim := { program := "ytnogfpfeimmhjaa", sum := "70a181ffd06b4b274496153451ef761dfd433f694011c0a22bf7e89b1262013a", func := "loop.example/g01307/laws.FnExactRowText", spec := "fnExactRowText", apart := false }
def FnExactRowTextSaid : Prop := fnExactRowTextRow.holds Try.pinned (OpenSpec.ofChange fnExactRowTextSpec)

/-- ITS FALSE NEIGHBOUR: 'it returns false'. Refute it at one input. -/
def fnExactRowTextWrong : ChangeSpec := { name := "fnExactRowText", fn := fun _ => fun
  | [d1, d2] => { results := [.lit (.bool false)], args := [d1, d2] }
  | _ => none }
def FnExactRowTextWrongFalsely : Prop := fnExactRowTextRow.holds Try.pinned (OpenSpec.ofChange fnExactRowTextWrong)

/-- 'laws.FnExactSumOf': WHATEVER THE INPUT: true; the input reads as it did. -/
def fnExactSumOfSpec : ChangeSpec := { name := "fnExactSumOf", fn := fun _ => fun
  | [d] => { results := [.lit (.bool true)], args := [d] }
  | _ => none }
def fnExactSumOfRow : OpenClaim := { program := "ytnogfpfeimmhjaa", sum := "70a181ffd06b4b274496153451ef761dfd433f694011c0a22bf7e89b1262013a", func := "loop.example/g01307/laws.FnExactSumOf", spec := "fnExactSumOf", apart := false }
def FnExactSumOfSaid : Prop := fnExactSumOfRow.holds Try.pinned (OpenSpec.ofChange fnExactSumOfSpec)

/-- ITS FALSE NEIGHBOUR: 'it returns false'. Refute it at one input. -/
def fnExactSumOfWrong : ChangeSpec := { name := "fnExactSumOf", fn := fun _ => fun
  | [d] => { results := [.lit (.bool false)], args := [d] }
  | _ => none }
def FnExactSumOfWrongFalsely : Prop := fnExactSumOfRow.holds Try.pinned (OpenSpec.ofChange fnExactSumOfWrong)

/-- 'laws.FnSums': WHATEVER THE INPUT: true; the input reads as it did. -/
def fnSumsSpec : ChangeSpec := { name := "fnSums", fn := fun _ => fun
  | [d1, d2] => { results := [.lit (.bool true)], args := [d1, d2] }
  | _ => none }
def fnSumsRow : OpenClaim := { program := "ytnogfpfeimmhjaa", sum := "70a181ffd06b4b274496153451ef761dfd433f694011c0a22bf7e89b1262013a", func := "loop.example/g01307/laws.FnSums", spec := "fnSums", recurses := true, apart := false }
def FnSumsSaid : Prop := fnSumsRow.holds Try.pinned (OpenSpec.ofChange fnSumsSpec)

/-- ITS FALSE NEIGHBOUR: 'it returns false'. Refute it at one input. -/
def fnSumsWrong : ChangeSpec := { name := "fnSums", fn := fun _ => fun
  | [d1, d2] => { results := [.lit (.bool false)], args := [d1, d2] }
  | _ => none }
def FnSumsWrongFalsely : Prop := fnSumsRow.holds Try.pinned (OpenSpec.ofChange fnSumsWrong)

/-- 'laws.FnExactCellsOf': WHATEVER THE INPUT: true; the input reads as it did. -/
def fnExactCellsOfSpec : ChangeSpec := { name := "fnExactCellsOf", fn := fun _ => fun
  | [d] => { results := [.lit (.bool true)], args := [d] }
  | _ => none }
def fnExactCellsOfRow : OpenClaim := { program := "ytnogfpfeimmhjaa", sum := "70a181ffd06b4b274496153451ef761dfd433f694011c0a22bf7e89b1262013a", func := "loop.example/g01307/laws.FnExactCellsOf", spec := "fnExactCellsOf", apart := false }
def FnExactCellsOfSaid : Prop := fnExactCellsOfRow.holds Try.pinned (OpenSpec.ofChange fnExactCellsOfSpec)

/-- ITS FALSE NEIGHBOUR: 'it returns false'. Refute it at one input. -/
def fnExactCellsOfWrong : ChangeSpec := { name := "fnExactCellsOf", fn := fun _ => fun
  | [d] => { results := [.lit (.bool false)], args := [d] }
  | _ => none }
def FnExactCellsOfWrongFalsely : Prop := fnExactCellsOfRow.holds Try.pinned (OpenSpec.ofChange fnExactCellsOfWrong)

/-- 'laws.FnExactRepeatsFrom': WHATEVER THE INPUT: true; the input reads as it did. -/
def fnExactRepeatsFromSpec : ChangeSpec := { name := "fnExactRepeatsFrom", fn := fun _ => fun
  | [d1, d2, d3] => { results := [.lit (.bool true)], args := [d1, d2, d3] }
  | _ => none }
def fnExactRepeatsFromRow : OpenClaim := { program := "ytnogfpfeimmhjaa", sum := "70a181ffd06b4b274496153451ef761dfd433f694011c0a22bf7e89b1262013a", func := "loop.example/g01307/laws.FnExactRepeatsFrom", spec := "fnExactRepeatsFrom", apart := false }
def FnExactRepeatsFromSaid : Prop := fnExactRepeatsFromRow.holds Try.pinned (OpenSpec.ofChange fnExactRepeatsFromSpec)

/-- ITS FALSE NEIGHBOUR: 'it returns false'. Refute it at one input. -/
def fnExactRepeatsFromWrong : ChangeSpec := { name := "fnExactRepeatsFrom", fn := fun _ => fun
  | [d1, d2, d3] => { results := [.lit (.bool false)], args := [d1, d2, d3] }
  | _ => none }
def FnExactRepeatsFromWrongFalsely : Prop := fnExactRepeatsFromRow.holds Try.pinned (OpenSpec.ofChange fnExactRepeatsFromWrong)

/-- 'laws.FnExactLeadingMove': WHATEVER THE INPUT: true; the input reads as it did. -/
def fnExactLeadingMoveSpec : ChangeSpec := { name := "fnExactLeadingMove", fn := fun _ => fun
  | [d] => { results := [.lit (.bool true)], args := [d] }
  | _ => none }
def fnExactLeadingMoveRow : OpenClaim := { program := "ytnogfpfeimmhjaa", sum := "70a181ffd06b4b274496153451ef761dfd433f694011c0a22bf7e89b1262013a", func := "loop.example/g01307/laws.FnExactLeadingMove", spec := "fnExactLeadingMove", apart := false }
def FnExactLeadingMoveSaid : Prop := fnExactLeadingMoveRow.holds Try.pinned (OpenSpec.ofChange fnExactLeadingMoveSpec)

/-- ITS FALSE NEIGHBOUR: 'it returns false'. Refute it at one input. -/
def fnExactLeadingMoveWrong : ChangeSpec := { name := "fnExactLeadingMove", fn := fun _ => fun
  | [d] => { results := [.lit (.bool false)], args := [d] }
  | _ => none }
def FnExactLeadingMoveWrongFalsely : Prop := fnExactLeadingMoveRow.holds Try.pinned (OpenSpec.ofChange fnExactLeadingMoveWrong)

/-- 'laws.FnExactOddBits': WHATEVER THE INPUT: true; the input reads as it did. -/
def fnExactOddBitsSpec : ChangeSpec := { name := "fnExactOddBits", fn := fun _ => fun
  | [d] => { results := [.lit (.bool true)], args := [d] }
  | _ => none }
def fnExactOddBitsRow : OpenClaim := { program := "ytnogfpfeimmhjaa", sum := "70a181ffd06b4b274496153451ef761dfd433f694011c0a22bf7e89b1262013a", func := "loop.example/g01307/laws.FnExactOddBits", spec := "fnExactOddBits", apart := false }
def FnExactOddBitsSaid : Prop := fnExactOddBitsRow.holds Try.pinned (OpenSpec.ofChange fnExactOddBitsSpec)

/-- ITS FALSE NEIGHBOUR: 'it returns false'. Refute it at one input. -/
def fnExactOddBitsWrong : ChangeSpec := { name := "fnExactOddBits", fn := fun _ => fun
  | [d] => { results := [.lit (.bool false)], args := [d] }
  | _ => none }
def FnExactOddBitsWrongFalsely : Prop := fnExactOddBitsRow.holds Try.pinned (OpenSpec.ofChange fnExactOddBitsWrong)

/-- 'laws.FnExactValidMatrix': WHATEVER THE INPUT: true; the input reads as it did. -/
def fnExactValidMatrixSpec : ChangeSpec := { name := "fnExactValidMatrix", fn := fun _ => fun
  | [d] => { results := [.lit (.bool true)], args := [d] }
  | _ => none }
def fnExactValidMatrixRow : OpenClaim := { program := "ytnogfpfeimmhjaa", sum := "70a181ffd06b4b274496153451ef761dfd433f694011c0a22bf7e89b1262013a", func := "loop.example/g01307/laws.FnExactValidMatrix", spec := "fnExactValidMatrix", apart := false }
def FnExactValidMatrixSaid : Prop := fnExactValidMatrixRow.holds Try.pinned (OpenSpec.ofChange fnExactValidMatrixSpec)

/-- ITS FALSE NEIGHBOUR: 'it returns false'. Refute it at one input. -/
def fnExactValidMatrixWrong : ChangeSpec := { name := "fnExactValidMatrix", fn := fun _ => fun
  | [d] => { results := [.lit (.bool false)], args := [d] }
  | _ => none }
def FnExactValidMatrixWrongFalsely : Prop := fnExactValidMatrixRow.holds Try.pinned (OpenSpec.ofChange fnExactValidMatrixWrong)

/- THE SECOND FORM. 'bulk': how many values and letters a reading holds, each counted each time it is reached (what is shared counts as often as it is met; a slice's spare places count too). A statement '..UptoSaid' is the law's where the arguments, and the package variables that the reading takes, are together of bulk at most 1048576: NARROWER than '..Said'. Prove '..Said' where nothing that the law and all that it calls make is longer than what came in: it says more and counts as full. Else prove '..UptoSaid'. A law counts once. -/
mutual
def uptoBulk {H : Type} : DataW H → Nat
  | .lit (.string bytes) => bytes.length + 1
  | .lit _ => 1
  | .nil => 1
  | .ptr d => uptoBulk d + 1
  | .slice elems spare => uptoBulkAll elems + uptoBulkAll spare + 1
  | .agg parts => uptoBulkAll parts + 1
  | .iface _ d => uptoBulk d + 1
  | .map entries => uptoBulkEntries entries + 1
  | .held _ => 1
def uptoBulkAll {H : Type} : List (DataW H) → Nat
  | [] => 0
  | d :: r => uptoBulk d + uptoBulkAll r
def uptoBulkEntries {H : Type} : List (Lit × DataW H) → Nat
  | [] => 0
  | x :: r => uptoBulkEntry x + uptoBulkEntries r
def uptoBulkEntry {H : Type} : Lit × DataW H → Nat
  | (.string bytes, d) => bytes.length + uptoBulk d + 1
  | (_, d) => uptoBulk d + 1
 end
def uptoSmall : (H : Type) → List (DataW H) → Bool := fun _ ds => decide (uptoBulkAll ds ≤ 1048576)
def OpenSpec.upto (s : _root_.Go.ChangeSpec) : _root_.Go.OpenSpec := { _root_.Go.OpenSpec.ofChange s with cond := some uptoSmall }

/-- 'laws.FnExactConstants', WHERE WHAT IT READS IS OF BULK AT MOST 1048576: true; the input reads as it did. -/
def fnExactConstantsUptoRow : OpenClaim := { program := "ytnogfpfeimmhjaa", sum := "70a181ffd06b4b274496153451ef761dfd433f694011c0a22bf7e89b1262013a", func := "loop.example/g01307/laws.FnExactConstants", spec := "fnExactConstants", apart := false, narrowed := true }
def FnExactConstantsUptoSaid : Prop := fnExactConstantsUptoRow.holds Try.pinned (OpenSpec.upto fnExactConstantsSpec)

/-- 'laws.FnExactPlusNim', WHERE WHAT IT READS IS OF BULK AT MOST 1048576: true; the input reads as it did. -/
def fnExactPlusNimUptoRow : OpenClaim := { program := "ytnogfpfeimmhjaa", sum := "70a181ffd06b4b274496153451ef761dfd433f694011c0a22bf7e89b1262013a", func := "loop.example/g01307/laws.FnExactPlusNim", spec := "fnExactPlusNim", apart := false, narrowed := true }
def FnExactPlusNimUptoSaid : Prop := fnExactPlusNimUptoRow.holds Try.pinned (OpenSpec.upto fnExactPlusNimSpec)

/-- 'laws.FnExactCodeName', WHERE WHAT IT READS IS OF BULK AT MOST 1048576: true; the input reads as it did. -/
def fnExactCodeNameUptoRow : OpenClaim := { program := "ytnogfpfeimmhjaa", sum := "70a181ffd06b4b274496153451ef761dfd433f694011c0a22bf7e89b1262013a", func := "loop.example/g01307/laws.FnExactCodeName", spec := "fnExactCodeName", apart := false, narrowed := true }
def FnExactCodeNameUptoSaid : Prop := fnExactCodeNameUptoRow.holds Try.pinned (OpenSpec.upto fnExactCodeNameSpec)

/-- 'laws.FnExactLevelOf', WHERE WHAT IT READS IS OF BULK AT MOST 1048576: true; the input reads as it did. -/
def fnExactLevelOfUptoRow : OpenClaim := { program := "ytnogfpfeimmhjaa", sum := "70a181ffd06b4b274496153451ef761dfd433f694011c0a22bf7e89b1262013a", func := "loop.example/g01307/laws.FnExactLevelOf", spec := "fnExactLevelOf", apart := false, narrowed := true }
def FnExactLevelOfUptoSaid : Prop := fnExactLevelOfUptoRow.holds Try.pinned (OpenSpec.upto fnExactLevelOfSpec)

/-- 'laws.FnExactRowText', WHERE WHAT IT READS IS OF BULK AT MOST 1048576: true; the input reads as it did. -/
def fnExactRowTextUptoRow : OpenClaim := { program := "ytnogfpfeimmhjaa", sum := "70a181ffd06b4b274496153451ef761dfd433f694011c0a22bf7e89b1262013a", func := "loop.example/g01307/laws.FnExactRowText", spec := "fnExactRowText", apart := false, narrowed := true }
def FnExactRowTextUptoSaid : Prop := fnExactRowTextUptoRow.holds Try.pinned (OpenSpec.upto fnExactRowTextSpec)

/-- 'laws.FnExactSumOf', WHERE WHAT IT READS IS OF BULK AT MOST 1048576: true; the input reads as it did. -/
def fnExactSumOfUptoRow : OpenClaim := { program := "ytnogfpfeimmhjaa", sum := "70a181ffd06b4b274496153451ef761dfd433f694011c0a22bf7e89b1262013a", func := "loop.example/g01307/laws.FnExactSumOf", spec := "fnExactSumOf", apart := false, narrowed := true }
def FnExactSumOfUptoSaid : Prop := fnExactSumOfUptoRow.holds Try.pinned (OpenSpec.upto fnExactSumOfSpec)

/-- 'laws.FnSums', WHERE WHAT IT READS IS OF BULK AT MOST 1048576: true; the input reads as it did. -/
def fnSumsUptoRow : OpenClaim := { program := "ytnogfpfeimmhjaa", sum := "70a181ffd06b4b274496153451ef761dfd433f694011c0a22bf7e89b1262013a", func := "loop.example/g01307/laws.FnSums", spec := "fnSums", recurses := true, apart := false, narrowed := true }
def FnSumsUptoSaid : Prop := fnSumsUptoRow.holds Try.pinned (OpenSpec.upto fnSumsSpec)

/-- 'laws.FnExactCellsOf', WHERE WHAT IT READS IS OF BULK AT MOST 1048576: true; the input reads as it did. -/
def fnExactCellsOfUptoRow : OpenClaim := { program := "ytnogfpfeimmhjaa", sum := "70a181ffd06b4b274496153451ef761dfd433f694011c0a22bf7e89b1262013a", func := "loop.example/g01307/laws.FnExactCellsOf", spec := "fnExactCellsOf", apart := false, narrowed := true }
def FnExactCellsOfUptoSaid : Prop := fnExactCellsOfUptoRow.holds Try.pinned (OpenSpec.upto fnExactCellsOfSpec)

/-- 'laws.FnExactRepeatsFrom', WHERE WHAT IT READS IS OF BULK AT MOST 1048576: true; the input reads as it did. -/
def fnExactRepeatsFromUptoRow : OpenClaim := { program := "ytnogfpfeimmhjaa", sum := "70a181ffd06b4b274496153451ef761dfd433f694011c0a22bf7e89b1262013a", func := "loop.example/g01307/laws.FnExactRepeatsFrom", spec := "fnExactRepeatsFrom", apart := false, narrowed := true }
def FnExactRepeatsFromUptoSaid : Prop := fnExactRepeatsFromUptoRow.holds Try.pinned (OpenSpec.upto fnExactRepeatsFromSpec)

/-- 'laws.FnExactLeadingMove', WHERE WHAT IT READS IS OF BULK AT MOST 1048576: true; the input reads as it did. -/
def fnExactLeadingMoveUptoRow : OpenClaim := { program := "ytnogfpfeimmhjaa", sum := "70a181ffd06b4b274496153451ef761dfd433f694011c0a22bf7e89b1262013a", func := "loop.example/g01307/laws.FnExactLeadingMove", spec := "fnExactLeadingMove", apart := false, narrowed := true }
def FnExactLeadingMoveUptoSaid : Prop := fnExactLeadingMoveUptoRow.holds Try.pinned (OpenSpec.upto fnExactLeadingMoveSpec)

/-- 'laws.FnExactOddBits', WHERE WHAT IT READS IS OF BULK AT MOST 1048576: true; the input reads as it did. -/
def fnExactOddBitsUptoRow : OpenClaim := { program := "ytnogfpfeimmhjaa", sum := "70a181ffd06b4b274496153451ef761dfd433f694011c0a22bf7e89b1262013a", func := "loop.example/g01307/laws.FnExactOddBits", spec := "fnExactOddBits", apart := false, narrowed := true }
def FnExactOddBitsUptoSaid : Prop := fnExactOddBitsUptoRow.holds Try.pinned (OpenSpec.upto fnExactOddBitsSpec)

/-- 'laws.FnExactValidMatrix', WHERE WHAT IT READS IS OF BULK AT MOST 1048576: true; the input reads as it did. -/
def fnExactValidMatrixUptoRow : OpenClaim := { program := "ytnogfpfeimmhjaa", sum := "70a181ffd06b4b274496153451ef761dfd433f694011c0a22bf7e89b1262013a", func := "loop.example/g01307/laws.FnExactValidMatrix", spec := "fnExactValidMatrix", apart := false, narrowed := true }
def FnExactValidMatrixUptoSaid : Prop := fnExactValidMatrixUptoRow.holds Try.pinned (OpenSpec.upto fnExactValidMatrixSpec)

end Rows
end Go.Proofs.Ytnogfpfeimmhjaa
