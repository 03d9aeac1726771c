/- FnExactNimText: the printed pure statement holds: at every input the law's function answers true; no condition but the bounds of its kinds. -/
import Derived.Test.YtojjakjpdkpmiaaDoorQFnExactNimTextx1
import Derived.Test.YtojjakjpdkpmiaaDoorLib
set_option linter.unusedVariables false
set_option linter.unusedSimpArgs false
namespace Go.Proofs.YtojjakjpdkpmiaaDoor.Pure
open Go.RowKit Go.Proofs.YtojjakjpdkpmiaaDoor.QFnExactNimText Go.Proofs.YtojjakjpdkpmiaaDoorW.PrintWords Go.Proofs.YtojjakjpdkpmiaaDoorW.PrintLast Go.Proofs.YtojjakjpdkpmiaaDoor.Lib

def decS (n : Nat) : ByteArray := ⟨(Go.Lib.decDigits n).toArray⟩
theorem nDigits_le (u : Nat) : Go.Lib.nDigits u ≤ u + 1 := by
  induction u using Nat.strongRecOn with
  | ind u ih =>
    by_cases h : u < 10
    · rw [Go.Lib.nDigits_small h]; omega
    · rw [Go.Lib.nDigits_big h]
      have := ih (u / 10) (by omega)
      omega
theorem decS_size (n : Nat) : (decS n).size = Go.Lib.nDigits n := by
  show (Go.Lib.decDigits n).toArray.size = _
  rw [List.size_toArray, Go.Lib.decDigits_length]
theorem digit_one (n : Nat) : strOfNums ([(wrap64 (48 + (Int.tmod (n : Int) 10))) % 256] : List Int) = ⟨#[UInt8.ofNat (48 + n % 10)]⟩ := by
  have e : (wrap64 (48 + (Int.tmod (n : Int) 10))) % 256 = ((48 + n % 10 : Nat) : Int) := by
    rw [Int.tmod_eq_emod_of_nonneg (by omega), w64 (by omega) (by omega)]
    omega
  rw [e]
  rfl
theorem decS_big {n : Nat} (h : ¬ n < 10) : decS n = decS (n / 10) ++ (⟨#[UInt8.ofNat (48 + n % 10)]⟩ : ByteArray) := by
  apply ByteArray.ext
  show (Go.Lib.decDigits n).toArray = _
  rw [Go.Lib.decDigits, dif_neg h]
  simp [decS, ByteArray.data_append]
theorem dec_ev : ∀ (n : Nat), n ≤ 9223372036854775807 → Ev (fun k => spec_Decimal.f k (n : Int)) (decS n) := by
  intro n
  induction n using Nat.strongRecOn with
  | ind n ih =>
    intro hn
    refine Ev_round ?_
    simp only [spec_Decimal.f]
    by_cases h : n < 10
    · refine Ev_pos (by omega) (Ev_as (Ev.now _) ?_)
      rw [digit_one]
      unfold decS
      rw [Go.Lib.decDigits_one h, show n % 10 = n by omega]
    · refine Ev_neg (by omega) ?_
      rw [Int.tdiv_eq_ediv_of_nonneg (by omega), w64 (by omega) (by omega), show (n : Int) / 10 = ((n / 10 : Nat) : Int) by omega]
      refine Ev.bind (ih (n / 10) (by omega) (by omega)) ?_
      simp only [Option.bind_some]
      rw [digit_one]
      have h1 := decS_size (n / 10)
      have h2 := nDigits_le (n / 10)
      have h3 : (⟨#[UInt8.ofNat (48 + n % 10)]⟩ : ByteArray).size = 1 := rfl
      refine Ev_pos (by rw [h1, h3]; omega) ?_
      rw [← decS_big h]
      exact Ev.now _

theorem dec_nat (n : Nat) (h : n ≤ 9223372036854775807) : impl_dec.f (n : Int) = some (decS n) := by
  unfold impl_dec.f strconv_FormatInt_94.f
  rw [if_pos rfl, if_pos (by omega)]
  simp only [Option.bind_some]
  refine congrArg some ?_
  unfold decS Go.Lib.itoa
  rw [if_neg (by omega), Int.toNat_natCast]

def nimS (n : Nat) : ByteArray := (⟨#[42]⟩ : ByteArray) ++ decS n
theorem decS_small {n : Nat} (h : n ≤ 65535) : (decS n).size ≤ 65536 := by
  have h1 := decS_size n
  have h2 := nDigits_le n
  omega
theorem impl_nim (n : Nat) (h : n ≤ 65535) : impl_NimText.f (n : Int) = some (nimS n) := by
  unfold impl_NimText.f
  rw [w64 (by omega) (by omega), dec_nat n (by omega)]
  simp only [Option.bind_some]
  have := decS_small h
  rw [if_pos (by omega)]
  rfl
theorem spec_nim (n : Nat) (h : n ≤ 65535) : Ev (fun k => spec_l01Text.f k (n : Int)) (nimS n) := by
  unfold spec_l01Text.f
  rw [w64 (by omega) (by omega)]
  have := decS_small h
  exact Ev.bind (dec_ev n (by omega)) (Ev_pos (by omega) (Ev.now _))

theorem FnExactNimText : laws_FnExactNimText.Pure := by
  intro a wa
  obtain ⟨a0, a1⟩ := wf_u16 wa
  obtain ⟨n, rfl⟩ := Int.eq_ofNat_of_zero_le a0
  refine Ev.rounds (r := true) ?_
  unfold laws_FnExactNimText.f spec_NimText.f
  exact Ev.bind (Ev.bind (spec_nim n (by omega)) (Ev.now _)) (Ev_bind1 (impl_nim n (by omega)) (Ev_pos rfl (Ev.now _)))

end Go.Proofs.YtojjakjpdkpmiaaDoor.Pure
