/- Written by the session's own program (wip/myprint.py), for the law FnSums: each function as a plain Lean function, and its contract. -/
import Derived.Test.YteinllalhiflcaaProg
import Derived.Below
import Derived.Deep.Draws
import Derived.Deep.AppendLies
import Derived.Maps.AppendAt
import Derived.OwnWalk
import Derived.Laws.BytesArg
import Derived.Laws.MakeOwn
import Derived.Laws.OwnMore
import Derived.Deep.OwnRows
import Derived.Tactics
import Derived.Lib.ConvBytes
import Derived.Laws.Slices
import Derived.WalkKit
import Derived.KernelRfl
import Derived.RowKit3
import Derived.Deep.LoopGhost
import Derived.Deep.QuietTactic
import Derived.BigQuiet
import Derived.WideLaws
import Derived.Deep.DeepCutAuto
import Derived.Deep.CutBlock
import Derived.Deep.RegionHeld3
import Derived.Laws.Rows
import Derived.Lib.AppendStr
import Derived.ArgAppend
import Derived.Laws.IdiomCopy
import Derived.OrdersHeld
import Derived.Laws.BitsLemmas
import Derived.RowKit
import Derived.Test.YteinllalhiflcaaPairs
import Derived.Test.YteinllalhiflcaaWWords
import Derived.Test.YteinllalhiflcaaWLast
import Derived.Test.YteinllalhiflcaaWTab
import Derived.Test.YteinllalhiflcaaWFour
import Derived.Test.YteinllalhiflcaaWQPut
import Derived.Test.YteinllalhiflcaaWApart
import Derived.Test.YteinllalhiflcaaWArr
import Derived.Test.YteinllalhiflcaaWZeros
import Derived.Test.YteinllalhiflcaaWFoot
import Derived.Test.YteinllalhiflcaaWKept
import Derived.Test.YteinllalhiflcaaWShare
import Derived.Test.YteinllalhiflcaaWN
import Derived.Test.YteinllalhiflcaaWFootNe
import Derived.Test.YteinllalhiflcaaWAt
import Derived.Test.YteinllalhiflcaaWEqStruct
import Derived.Test.YteinllalhiflcaaWRepsOne
import Derived.Test.YteinllalhiflcaaWInv
import Derived.Test.YteinllalhiflcaaWInvWords
import Derived.Test.YteinllalhiflcaaWGuard
import Derived.Test.YteinllalhiflcaaWNEv
import Derived.Test.YteinllalhiflcaaWMore
namespace Go.Proofs.Yteinllalhiflcaa.QFnSums
open Go.RowKit Go.Proofs.YteinllalhiflcaaW.PrintWords Go.Proofs.YteinllalhiflcaaW.PrintLast Go.Proofs.YteinllalhiflcaaW.PrintMore
attribute [local go_sem] max2_int min2_int max_two min_two max_three min_three max_four min_four   -- for this text's walks alone
set_option linter.unusedVariables false
set_option linter.unusedSimpArgs false



def errW : Option Int → Value
  | none => .nilIface
  | some c => .iface 0 (.int .i64 c)
theorem errW_none : errW none = .nilIface := rfl
theorem errW_some (c : Int) : errW (some c) = .iface 0 (.int .i64 c) := rfl

theorem info4 : (Try.prog.info? 4).map (fun i => (i.zero, i.size, i.bytes)) = some (some (.bool false), 1, 1) := by kernel_rfl
theorem info44 : (Try.prog.info? 44).map (fun i => (i.zero, i.size, i.bytes)) = some (some (.int .u16 0), 1, 2) := by kernel_rfl
theorem info86 : (Try.prog.info? 86).map (fun i => (i.zero, i.size, i.bytes)) = some (some (.slice none 0 0), 1, 24) := by kernel_rfl
theorem info87 : (Try.prog.info? 87).map (fun i => (i.zero, i.size, i.bytes)) = some (some (.int .i8 0), 1, 1) := by kernel_rfl
-- the values' own types
def rd_L2 (xs : List (List Int)) (i : Int) : (List Int) := xs.getD i.toNat ([] : List Int)
theorem at_L2 {w : World} {A : Option Addr} {n : Nat} {xs : List (List Int)} (h : Kd.C (Kd.slice 87 (Kd.int .i8)) w A n xs) (i : Int) (h0 : 0 ≤ i) (h1 : i < n) : ∃ ad A0 c0, A = some ad ∧ w.cell? (ad.add i.toNat) = some (.slice A0 (rd_L2 xs i).length c0) ∧ (rd_L2 xs i).length ≤ c0 ∧ (Kd.int .i8).C w A0 (rd_L2 xs i).length (rd_L2 xs i) := by
  obtain ⟨ad, c, e, _, hK, hc0⟩ := Kd.C_get h ([] : List Int) i h0 h1
  have hc : ∀ j u, c[j]? = some u → w.cell? (ad.add (i.toNat * 1 + j)) = some u := hc0
  obtain ⟨A0, c0, rfl, l0, g0⟩ := hK
  exact ⟨ad, A0, c0, e, by have hq := hc 0 _ rfl; rwa [Nat.mul_one, Nat.add_zero] at hq, l0, g0⟩

end Go.Proofs.Yteinllalhiflcaa.QFnSums
