/- FnExactReadRow: the printed pure statement holds: at every input the law's function answers true; no condition but the bounds of its kinds. -/
import Derived.Test.YtojjakjpdkpmiaaDoorQFnExactReadRowx1
import Derived.Test.YtojjakjpdkpmiaaDoorLib
set_option linter.unusedVariables false
set_option linter.unusedSimpArgs false
namespace Go.Proofs.YtojjakjpdkpmiaaDoor.Pure
open Go.RowKit Go.Proofs.YtojjakjpdkpmiaaDoor.QFnExactReadRow Go.Proofs.YtojjakjpdkpmiaaDoorW.PrintWords Go.Proofs.YtojjakjpdkpmiaaDoorW.PrintLast Go.Proofs.YtojjakjpdkpmiaaDoor.Lib

def htB (c : UInt8) : Bool := ([72, 84] : List UInt8).contains c
theorem drop_all {p : UInt8 → Bool} : ∀ (l : List UInt8), l.dropWhile p = [] ↔ l.all p = true := by
  intro l
  induction l with
  | nil => simp
  | cons a t ih =>
    rw [List.dropWhile_cons, List.all_cons]
    cases h : p a with
    | true => simp [ih]
    | false => simp
theorem drop_all2 {p : UInt8 → Bool} : ∀ (l : List UInt8), (l.dropWhile p).all p = l.all p := by
  intro l
  induction l with
  | nil => rfl
  | cons a t ih =>
    rw [List.dropWhile_cons, List.all_cons]
    cases h : p a with
    | true => simp [ih]
    | false => simp [h]
theorem trimHT_nil (s : ByteArray) : ((trimHT s).toList != ([] : List UInt8)) = !(s.data.toList.all htB) := by
  have e : (trimHT s).toList = Go.Lib.trimS s.data.toList [72, 84] := by rw [Go.Lib.toList_data]; rfl
  have k : (Go.Lib.trimS s.data.toList [72, 84] = []) ↔ s.data.toList.all htB = true := by
    unfold Go.Lib.trimS Go.Lib.trimLeftS Go.Lib.trimRightS
    rw [drop_all, List.all_reverse]
    show ((s.data.toList.reverse.dropWhile htB).all htB = true) ↔ _
    rw [drop_all2, List.all_reverse]
  rw [e]
  cases h : s.data.toList.all htB with
  | true =>
    rw [k.2 h]
    rfl
  | false =>
    have : ¬ (Go.Lib.trimS s.data.toList [72, 84] = []) := fun hh => by rw [k.1 hh] at h; cases h
    simp [this]
theorem bt_list (s : ByteArray) (i : Nat) (h : i < s.size) : bt s (i : Int) = ((s.data.toList[i]'(by simpa using h)).toNat : Int) := by
  unfold bt
  rw [Int.toNat_natCast, dif_pos h]
  rfl
theorem row_both (s : ByteArray) (hs : s.size ≤ 24) : ∀ (d n o : Nat), n + d = s.size → o < 2 ^ n → ∃ R : Int,
    ((s.data.toList.drop n).all htB = true → Ev (fun k => spec_ReadRow.l0 k s (o : Int) (n : Int)) (R, 0)) ∧
    ((s.data.toList.drop n).all htB = false → Ev (fun k => spec_ReadRow.l0 k s (o : Int) (n : Int)) (0, 5)) ∧
    Ev (fun k => impl_ReadRow.l0 k s (o : Int) (s.size : Int) (n : Int)) (R, 0) := by
  intro d
  have hl : s.data.toList.length = s.size := Array.length_toList
  induction d with
  | zero =>
    intro n o h ho
    rw [List.drop_of_length_le (by omega)]
    refine ⟨(o : Int), fun _ => Ev_round ?_, fun hh => absurd hh (by simp), Ev_round ?_⟩
    · simp only [spec_ReadRow.l0]
      exact Ev_neg (by omega) (Ev.now _)
    · simp only [impl_ReadRow.l0]
      exact Ev_neg (by omega) (Ev.now _)
  | succ d ih =>
    intro n o h ho
    have hi : n < s.size := by omega
    have hb := bt_list s n hi
    rw [List.drop_eq_getElem_cons (by omega), List.all_cons]
    generalize s.data.toList[n]'(by omega) = c at *
    have hp : 2 ^ n ≤ 2 ^ 23 := Nat.pow_le_pow_right (by omega) (by omega)
    have hp2 : 2 ^ (n + 1) = 2 * 2 ^ n := by rw [Nat.pow_succ, Nat.mul_comm]
    have e1 : IntKind.u64.wrap (n : Int) = (n : Int) := wu64 (by omega) (by omega)
    have e2 : wrap64 ((n : Int) + 1) = ((n + 1 : Nat) : Int) := by rw [w64 (by omega) (by omega)]; omega
    have e3 : shl .u32 1 (n : Int) = ((2 ^ n : Nat) : Int) := by
      have := shl_u32 1 n (by omega) (by omega)
      simpa using this
    have e4 : Go.bits .or .u32 (o : Int) ((2 ^ n : Nat) : Int) = ((o ||| 2 ^ n : Nat) : Int) := u32_or_nat o (2 ^ n) (by omega) (by omega)
    have ho2 : o ||| 2 ^ n < 2 ^ (n + 1) := Nat.or_lt_two_pow (by omega) (by omega)
    by_cases c72 : c.toNat = 72
    · have hc : c = 72 := UInt8.toNat_inj.1 c72
      have hh : htB c = true := by rw [hc]; rfl
      obtain ⟨R, r1, r2, r3⟩ := ih (n + 1) (o ||| 2 ^ n) (by omega) ho2
      rw [hh, Bool.true_and]
      refine ⟨R, fun q => Ev_round ?_, fun q => Ev_round ?_, Ev_round ?_⟩
      · simp only [spec_ReadRow.l0]
        rw [e1, e2, e3, e4]
        exact Ev_pos (by omega) (Ev_pos (by omega) (Ev_pos (by omega) (Ev_pos (by omega) (r1 q))))
      · simp only [spec_ReadRow.l0]
        rw [e1, e2, e3, e4]
        exact Ev_pos (by omega) (Ev_pos (by omega) (Ev_pos (by omega) (Ev_pos (by omega) (r2 q))))
      · simp only [impl_ReadRow.l0]
        rw [e2, e3, e4]
        exact Ev_pos (by omega) (Ev_pos (by omega) (Ev_pos (by omega) (Ev_pos (by omega) r3)))
    · obtain ⟨R, r1, r2, r3⟩ := ih (n + 1) o (by omega) (by omega)
      have himpl : Ev (fun k => impl_ReadRow.l0 k s (o : Int) (s.size : Int) (n : Int)) (R, 0) := by
        refine Ev_round ?_
        simp only [impl_ReadRow.l0]
        rw [e2]
        exact Ev_pos (by omega) (Ev_pos (by omega) (Ev_pos (by omega) (Ev_neg (by omega) r3)))
      by_cases c84 : c.toNat = 84
      · have hc : c = 84 := UInt8.toNat_inj.1 c84
        have hh : htB c = true := by rw [hc]; rfl
        rw [hh, Bool.true_and]
        refine ⟨R, fun q => Ev_round ?_, fun q => Ev_round ?_, himpl⟩
        · simp only [spec_ReadRow.l0]
          rw [e2]
          exact Ev_pos (by omega) (Ev_pos (by omega) (Ev_neg (by omega) (Ev_pos (by omega) (r1 q))))
        · simp only [spec_ReadRow.l0]
          rw [e2]
          exact Ev_pos (by omega) (Ev_pos (by omega) (Ev_neg (by omega) (Ev_pos (by omega) (r2 q))))
      · have hh : htB c = false := by
          unfold htB
          simp only [List.contains_cons, List.contains_nil, Bool.or_false, Bool.or_eq_false_iff, beq_eq_false_iff_ne]
          exact ⟨fun e => c72 (by rw [e]; rfl), fun e => c84 (by rw [e]; rfl)⟩
        rw [hh, Bool.false_and]
        refine ⟨R, fun q => absurd q (by simp), fun q => Ev_round ?_, himpl⟩
        simp only [spec_ReadRow.l0]
        exact Ev_pos (by omega) (Ev_pos (by omega) (Ev_neg (by omega) (Ev_neg (by omega) (Ev.now _))))
theorem FnExactReadRow (s : ByteArray) (hs : s.size ≤ maxLen) : ∃ k, laws_FnExactReadRow.f k s = some true := by
  have hm : s.size ≤ 9223372036854775807 := hs
  by_cases hb : (s.size : Int) > 1048576
  · exact ⟨0, if_pos hb⟩
  · refine Ev.rounds (r := true) (Ev_neg hb ?_)
    unfold spec_ReadRow.f impl_ReadRow.f
    have J : Ev (fun k => impl_ReadRow.j0 k s true) (0, 5) := by
      refine Ev_round ?_
      simp only [impl_ReadRow.j0]
      exact Ev_pos (by trivial) (Ev.now _)
    by_cases c24 : (s.size : Int) > 24
    · exact Ev.bind (Ev_pos c24 (Ev.now _)) (Ev.bind (Ev_pos c24 J) (Ev_pos rfl (Ev_pos rfl (Ev.now _))))
    · obtain ⟨R, r1, r2, r3⟩ := row_both s (by omega) s.size 0 0 (by omega) (by omega)
      rw [List.drop_zero] at r1 r2
      have ht : strings_Trim.f s (⟨#[72, 84]⟩ : ByteArray) = some (trimHT s) := if_pos ⟨hm, rfl⟩
      rw [ht]
      simp only [Option.bind_some]
      rw [trimHT_nil]
      cases ha : s.data.toList.all htB with
      | true =>
        refine Ev.bind (Ev_neg c24 (r1 ha)) (Ev.bind (Ev_neg c24 (Ev_round ?_)) (Ev_pos rfl (Ev_pos rfl (Ev.now _))))
        simp only [impl_ReadRow.j0]
        exact Ev_neg (by simp) r3
      | false =>
        exact Ev.bind (Ev_neg c24 (r2 ha)) (Ev.bind (Ev_neg c24 J) (Ev_pos rfl (Ev_pos rfl (Ev.now _))))

end Go.Proofs.YtojjakjpdkpmiaaDoor.Pure
