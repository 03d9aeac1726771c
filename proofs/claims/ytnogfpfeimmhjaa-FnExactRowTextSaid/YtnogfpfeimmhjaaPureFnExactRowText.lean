/- FnExactRowText: the printed pure statement holds: at every input the law's function answers true; no condition but the bounds of its kinds. -/
import Derived.Test.YtnogfpfeimmhjaaPFnExactRowTextx1
import Derived.Test.YtnogfpfeimmhjaaLib
set_option linter.unusedVariables false
set_option linter.unusedSimpArgs false
namespace Go.Proofs.Ytnogfpfeimmhjaa.Pure
open Go.RowKit Go.Proofs.Ytnogfpfeimmhjaa.PFnExactRowText Go.Proofs.YtnogfpfeimmhjaaW.PrintWords Go.Proofs.YtnogfpfeimmhjaaW.PrintLast Go.Proofs.Ytnogfpfeimmhjaa.Lib

/-- The letter of a coin. -/
def coinL (row : Int) (i : Nat) : UInt8 := if row / ((2 ^ i : Nat) : Int) % 2 = 0 then 84 else 72
theorem coin_bit {row : Int} (h0 : 0 ≤ row) (h1 : row ≤ 4294967295) {i : Nat} (hi : i < 24) : Go.bits .and .u32 (shr .u32 row (i : Int)) 1 = row / ((2 ^ i : Nat) : Int) % 2 := by
  have hr := shr_range (k := .u32) (i := (i : Int)) h0
  rw [and1_u32 hr.1 (by omega), shr_u32 (by omega) (by omega)]
  simp
theorem coin_bits {row : Int} (i : Nat) : row / ((2 ^ i : Nat) : Int) % 2 = 0 ∨ row / ((2 ^ i : Nat) : Int) % 2 = 1 := by omega
theorem spec_text_ev (row : Int) (h0 : 0 ≤ row) (h1 : row ≤ 4294967295) (c : Nat) (hc : c ≤ 24) :
    ∀ (d n : Nat) (acc : List Int), n + d = c → acc.length ≤ 24 + n → ∃ r, Ev (fun k => spec_l04Text.l0 k row c acc (n : Int)) r ∧ r.data.toList = (acc.map fun z => UInt8.ofNat z.toNat) ++ (List.range' n d).map (coinL row) := by
  intro d
  induction d with
  | zero =>
    intro n acc h _
    refine ⟨strOfNums acc, Ev_round ?_, by simp [strOfNums_data]⟩
    simp only [spec_l04Text.l0]
    exact Ev_neg (by omega) (Ev.now _)
  | succ d ih =>
    intro n acc h hl
    have hb := coin_bit h0 h1 (show n < 24 by omega)
    obtain ⟨r, hr, hd⟩ := ih (n + 1) (acc ++ [bt (⟨#[84, 72]⟩ : ByteArray) (row / ((2 ^ n : Nat) : Int) % 2)]) (by omega) (by simp; omega)
    refine ⟨r, Ev_round ?_, ?_⟩
    · simp only [spec_l04Text.l0]
      rw [wu64 (by omega) (by omega), hb, w64 (by omega) (by omega)]
      refine Ev_pos (by omega) (Ev_pos (by omega) (Ev_pos (by omega) (Ev_pos (by omega) (Ev_pos (by omega) ?_))))
      simpa using hr
    · rw [hd]
      have e : UInt8.ofNat (bt (⟨#[84, 72]⟩ : ByteArray) (row / ((2 ^ n : Nat) : Int) % 2)).toNat = coinL row n := by
        unfold coinL
        rcases coin_bits (row := row) n with e | e <;> rw [e] <;> decide
      rw [List.map_append, List.map_singleton, e]
      simp [List.range'_succ]

theorem impl_text_ev (row : Int) (h0 : 0 ≤ row) (h1 : row ≤ 4294967295) (c : Nat) (hc : c ≤ 24) :
    ∀ (d n : Nat) (s : ByteArray), n + d = c → s.data.toList.length = n → ∃ r, Ev (fun k => impl_RowText.l0 k row s c (n : Int)) (r, 0) ∧ r.data.toList = s.data.toList ++ (List.range' n d).map (coinL row) := by
  intro d
  induction d with
  | zero =>
    intro n s h _
    refine ⟨s, Ev_round ?_, by simp⟩
    simp only [impl_RowText.l0]
    exact Ev_neg (by omega) (Ev.now _)
  | succ d ih =>
    intro n s h hl
    have hb := coin_bit h0 h1 (show n < 24 by omega)
    have hs : s.size = n := by rw [Go.Lib.size_eq]; exact hl
    have e : (((⟨#[84, 72]⟩ : ByteArray).extract (row / ((2 ^ n : Nat) : Int) % 2).toNat ((row / ((2 ^ n : Nat) : Int) % 2 + 1) % 4294967296).toNat)).data.toList = [coinL row n] := by
      unfold coinL
      rcases coin_bits (row := row) n with e | e <;> rw [e] <;> decide
    have e1 : (((⟨#[84, 72]⟩ : ByteArray).extract (row / ((2 ^ n : Nat) : Int) % 2).toNat ((row / ((2 ^ n : Nat) : Int) % 2 + 1) % 4294967296).toNat)).size = 1 := by rw [Go.Lib.size_eq, e]; rfl
    obtain ⟨r, hr, hd⟩ := ih (n + 1) (s ++ ((⟨#[84, 72]⟩ : ByteArray).extract (row / ((2 ^ n : Nat) : Int) % 2).toNat ((row / ((2 ^ n : Nat) : Int) % 2 + 1) % 4294967296).toNat)) (by omega) (by rw [ByteArray.data_append, Array.toList_append, e]; simp [hl])
    refine ⟨r, Ev_round ?_, ?_⟩
    · simp only [impl_RowText.l0]
      rw [hb, w64 (by omega) (by omega)]
      refine Ev_pos (by omega) (Ev_pos (by omega) (Ev_pos (by omega) (Ev_pos (by omega) (Ev_pos (by omega) (Ev_pos (by rw [e1, hs]; omega) ?_)))))
      simpa using hr
    · rw [hd, ByteArray.data_append, Array.toList_append, e]
      simp [List.range'_succ]

theorem FnExactRowText : laws_FnExactRowText.Pure := by
  intro row c wr wc
  obtain ⟨h0, h1⟩ := wf_u32 wr
  have hc := wf_i64 wc
  refine Ev.rounds (r := true) ?_
  unfold laws_FnExactRowText.f spec_RowText.f impl_RowText.f spec_l00In.f impl_within.f
  by_cases c0 : 0 ≤ c
  · by_cases c1 : c ≤ 24
    · obtain ⟨n, rfl⟩ := Int.eq_ofNat_of_zero_le c0
      by_cases hz : shr .u32 row (n : Int) = 0
      · obtain ⟨r, hr, hd⟩ := spec_text_ev row h0 h1 n (by omega) n 0 [] (by omega) (by simp)
        obtain ⟨q, hq, he⟩ := impl_text_ev row h0 h1 n (by omega) n 0 ⟨#[]⟩ (by omega) rfl
        refine Ev.bind (a := (r, 0)) (Ev_bind1 (if_pos c0) (Ev_pos (by simp; omega) ?_)) ?_
        · rw [wu64 (by omega) (by omega)]
          exact Ev_pos (by omega) (Ev_pos hz (Ev.bind hr (Ev.now _)))
        refine Ev.bind (a := (q, 0)) (Ev_bind1 (if_pos c0) (Ev_pos (by simp; omega) (Ev_pos (by omega) (Ev_pos hz hq)))) ?_
        refine Ev_pos ?_ (Ev_pos rfl (Ev.now _))
        rw [Go.Lib.toList_data, Go.Lib.toList_data, hd, he]
        rfl
      · refine Ev.bind (a := (⟨#[]⟩, 3)) (Ev_bind1 (if_pos c0) (Ev_pos (by simp; omega) ?_)) ?_
        · rw [wu64 (by omega) (by omega)]
          exact Ev_pos (by omega) (Ev_neg hz (Ev.now _))
        refine Ev.bind (a := (⟨#[]⟩, 3)) (Ev_bind1 (if_pos c0) (Ev_pos (by simp; omega) (Ev_pos (by omega) (Ev_neg hz (Ev.now _))))) ?_
        exact Ev_pos rfl (Ev_pos rfl (Ev.now _))
    · refine Ev.bind (a := (⟨#[]⟩, 2)) (Ev_bind1 (if_pos c0) (Ev_neg (by simp; omega) (Ev.now _))) ?_
      refine Ev.bind (a := (⟨#[]⟩, 2)) (Ev_bind1 (if_pos c0) (Ev_neg (by simp; omega) (Ev.now _))) ?_
      exact Ev_pos rfl (Ev_pos rfl (Ev.now _))
  · refine Ev.bind (a := (⟨#[]⟩, 2)) (Ev_bind1 (if_neg c0) (Ev_neg (by simp) (Ev.now _))) ?_
    refine Ev.bind (a := (⟨#[]⟩, 2)) (Ev_bind1 (if_neg c0) (Ev_neg (by simp) (Ev.now _))) ?_
    exact Ev_pos rfl (Ev_pos rfl (Ev.now _))

end Go.Proofs.Ytnogfpfeimmhjaa.Pure
