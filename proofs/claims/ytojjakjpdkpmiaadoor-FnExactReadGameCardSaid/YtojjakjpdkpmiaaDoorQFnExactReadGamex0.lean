/- Written by the session's own program (wip/myprint.py), for the law FnExactReadGame: each function as a plain Lean function, and its contract. -/
import Derived.Test.YtojjakjpdkpmiaaDoorProg
import Derived.Below
import Derived.Deep.Draws
import Derived.Deep.AppendLies
import Derived.Maps.AppendAt
import Derived.OwnWalk
import Derived.Laws.BytesArg
import Derived.Laws.MakeOwn
import Derived.Laws.OwnMore
import Derived.Deep.OwnRows
import Derived.Tactics
import Derived.Lib.ConvBytes
import Derived.Laws.Slices
import Derived.WalkKit
import Derived.KernelRfl
import Derived.RowKit3
import Derived.Deep.LoopGhost
import Derived.Deep.QuietTactic
import Derived.BigQuiet
import Derived.WideLaws
import Derived.Deep.DeepCutAuto
import Derived.Deep.CutBlock
import Derived.Deep.RegionHeld3
import Derived.Laws.Rows
import Derived.Lib.AppendStr
import Derived.ArgAppend
import Derived.Laws.IdiomCopy
import Derived.OrdersHeld
import Derived.Laws.BitsLemmas
import Derived.RowKit
import Derived.Lib.AtoiErrMem
import Derived.Shelf.Strings.SlTrimAscii
import Derived.Test.YtojjakjpdkpmiaaDoorShFmt
import Derived.Test.YtojjakjpdkpmiaaDoorShJoin
import Derived.Test.YtojjakjpdkpmiaaDoorShParse
import Derived.Test.YtojjakjpdkpmiaaDoorShSplit
import Derived.Test.YtojjakjpdkpmiaaDoorShTrim
import Derived.WalkSmall
import Derived.Test.YtojjakjpdkpmiaaDoorWWords
import Derived.Test.YtojjakjpdkpmiaaDoorWLast
import Derived.Test.YtojjakjpdkpmiaaDoorWTab
import Derived.Test.YtojjakjpdkpmiaaDoorWFour
import Derived.Test.YtojjakjpdkpmiaaDoorWQPut
import Derived.Test.YtojjakjpdkpmiaaDoorWApart
import Derived.Test.YtojjakjpdkpmiaaDoorWArr
import Derived.Test.YtojjakjpdkpmiaaDoorWZeros
import Derived.Test.YtojjakjpdkpmiaaDoorWFoot
import Derived.Test.YtojjakjpdkpmiaaDoorWKept
import Derived.Test.YtojjakjpdkpmiaaDoorWShare
import Derived.Test.YtojjakjpdkpmiaaDoorWN
import Derived.Test.YtojjakjpdkpmiaaDoorWFootNe
import Derived.Test.YtojjakjpdkpmiaaDoorWAt
import Derived.Test.YtojjakjpdkpmiaaDoorWEqStruct
import Derived.Test.YtojjakjpdkpmiaaDoorWRepsOne
import Derived.Test.YtojjakjpdkpmiaaDoorWInv
import Derived.Test.YtojjakjpdkpmiaaDoorWInvWords
import Derived.Test.YtojjakjpdkpmiaaDoorWGuard
import Derived.Test.YtojjakjpdkpmiaaDoorWNEv
import Derived.Test.YtojjakjpdkpmiaaDoorWMore
namespace Go.Proofs.YtojjakjpdkpmiaaDoor.QFnExactReadGame
open Go.RowKit Go.Proofs.YtojjakjpdkpmiaaDoorW.PrintWords Go.Proofs.YtojjakjpdkpmiaaDoorW.PrintLast Go.Proofs.YtojjakjpdkpmiaaDoorW.PrintMore
attribute [local go_sem] max2_int min2_int max_two min_two max_three min_three max_four min_four   -- for this text's walks alone
set_option linter.unusedVariables false
set_option linter.unusedSimpArgs false



def errW : Option Int → Value
  | none => .nilIface
  | some c => .iface 0 (.int .i64 c)
theorem errW_none : errW none = .nilIface := rfl
theorem errW_some (c : Int) : errW (some c) = .iface 0 (.int .i64 c) := rfl

theorem info9 : (Tryd.prog.info? 9).map (fun i => (i.zero, i.size, i.bytes)) = some (some (.string ⟨#[]⟩), 1, 16) := by kernel_rfl
theorem info72 : (Tryd.prog.info? 72).map (fun i => (i.zero, i.size, i.bytes)) = some (some (.slice none 0 0), 1, 24) := by kernel_rfl
theorem info76 : (Tryd.prog.info? 76).map (fun i => (i.zero, i.size, i.bytes)) = some (some (.int .i8 0), 1, 1) := by kernel_rfl
-- the values' own types
def rd_L1 (xs : List (List Int)) (i : Int) : (List Int) := xs.getD i.toNat ([] : List Int)
theorem at_L1 {w : World} {A : Option Addr} {n : Nat} {xs : List (List Int)} (h : Kd.C (Kd.slice 76 (Kd.int .i8)) w A n xs) (i : Int) (h0 : 0 ≤ i) (h1 : i < n) : ∃ ad A0 c0, A = some ad ∧ w.cell? (ad.add i.toNat) = some (.slice A0 (rd_L1 xs i).length c0) ∧ (rd_L1 xs i).length ≤ c0 ∧ (Kd.int .i8).C w A0 (rd_L1 xs i).length (rd_L1 xs i) := by
  obtain ⟨ad, c, e, _, hK, hc0⟩ := Kd.C_get h ([] : List Int) i h0 h1
  have hc : ∀ j u, c[j]? = some u → w.cell? (ad.add (i.toNat * 1 + j)) = some u := hc0
  obtain ⟨A0, c0, rfl, l0, g0⟩ := hK
  exact ⟨ad, A0, c0, e, by have hq := hc 0 _ rfl; rwa [Nat.mul_one, Nat.add_zero] at hq, l0, g0⟩

def rd_L4 (xs : List (List ByteArray)) (i : Int) : (List ByteArray) := xs.getD i.toNat ([] : List ByteArray)
theorem at_L4 {w : World} {A : Option Addr} {n : Nat} {xs : List (List ByteArray)} (h : Kd.C (Kd.slice 9 Kd.string) w A n xs) (i : Int) (h0 : 0 ≤ i) (h1 : i < n) : ∃ ad A0 c0, A = some ad ∧ w.cell? (ad.add i.toNat) = some (.slice A0 (rd_L4 xs i).length c0) ∧ (rd_L4 xs i).length ≤ c0 ∧ Kd.string.C w A0 (rd_L4 xs i).length (rd_L4 xs i) := by
  obtain ⟨ad, c, e, _, hK, hc0⟩ := Kd.C_get h ([] : List ByteArray) i h0 h1
  have hc : ∀ j u, c[j]? = some u → w.cell? (ad.add (i.toNat * 1 + j)) = some u := hc0
  obtain ⟨A0, c0, rfl, l0, g0⟩ := hK
  exact ⟨ad, A0, c0, e, by have hq := hc 0 _ rfl; rwa [Nat.mul_one, Nat.add_zero] at hq, l0, g0⟩

def rd_L5 (xs : List (List (List Int))) (i : Int) : (List (List Int)) := xs.getD i.toNat ([] : List (List Int))
theorem at_L5 {w : World} {A : Option Addr} {n : Nat} {xs : List (List (List Int))} (h : Kd.C (Kd.slice 72 (Kd.slice 76 (Kd.int .i8))) w A n xs) (i : Int) (h0 : 0 ≤ i) (h1 : i < n) : ∃ ad A0 c0, A = some ad ∧ w.cell? (ad.add i.toNat) = some (.slice A0 (rd_L5 xs i).length c0) ∧ (rd_L5 xs i).length ≤ c0 ∧ (Kd.slice 76 (Kd.int .i8)).C w A0 (rd_L5 xs i).length (rd_L5 xs i) := by
  obtain ⟨ad, c, e, _, hK, hc0⟩ := Kd.C_get h ([] : List (List Int)) i h0 h1
  have hc : ∀ j u, c[j]? = some u → w.cell? (ad.add (i.toNat * 1 + j)) = some u := hc0
  obtain ⟨A0, c0, rfl, l0, g0⟩ := hK
  exact ⟨ad, A0, c0, e, by have hq := hc 0 _ rfl; rwa [Nat.mul_one, Nat.add_zero] at hq, l0, g0⟩

end Go.Proofs.YtojjakjpdkpmiaaDoor.QFnExactReadGame
