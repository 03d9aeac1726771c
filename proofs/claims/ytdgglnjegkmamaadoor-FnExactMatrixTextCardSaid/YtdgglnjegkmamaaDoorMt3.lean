/- MatrixText's law: both programs' texts of a matrix are one. No condition but the lengths, the kinds' bounds and the library's table of powers of ten. -/
import Derived.Test.YtdgglnjegkmamaaDoorMt2
import Derived.Test.YtdgglnjegkmamaaDoorPureFnExactMatrixText
set_option linter.unusedVariables false
set_option linter.unusedSimpArgs false
namespace Go.Proofs.YtdgglnjegkmamaaDoor.Mx
open Go.RowKit Go.Proofs.YtdgglnjegkmamaaDoor.Arr Go.Proofs.YtdgglnjegkmamaaDoorW.PrintWords Go.Proofs.YtdgglnjegkmamaaDoorW.PrintLast Go.Proofs.YtdgglnjegkmamaaDoorW.PrintMore Go.Proofs.YtdgglnjegkmamaaDoor.QFnExactMatrixText

theorem joined (T : Nat → ByteArray) : ∀ n, joinS ((List.range n).map T) ⟨#[59]⟩ = joinT T n := by
  intro n
  induction n with
  | zero => rfl
  | succ n ih =>
    rw [texts_snoc]
    by_cases h : n > 0
    · rw [Pure.joinS_snoc _ _ _ (by
        intro e
        have := congrArg List.length e
        rw [List.length_map, List.length_range, List.length_nil] at this
        omega), ih]
      rw [joinT, if_pos h]
    · obtain rfl : n = 0 := by omega
      show joinS [T 0] _ = (if (0 : Nat) > 0 then joinT T 0 ++ ⟨#[59]⟩ else joinT T 0) ++ T 0
      rw [if_neg (by omega), Pure.joinS_one]
      apply ByteArray.ext
      simp [joinT, ByteArray.data_append]
theorem cut_le (l : List Int) (c i : Nat) : (cut l c i).length ≤ c := by
  unfold cut
  rw [List.length_take]
  omega
theorem cut_mem {l : List Int} {c i : Nat} {x : Int} (h : x ∈ cut l c i) : x ∈ l := List.mem_of_mem_drop (List.mem_of_mem_take (List.mem_of_mem_take h))
/-- Both programs' answers. -/
theorem both_MT (r c : Int) (l : List Int) (hl : l.length = 36) (hb : I8 r c) (hx : ∀ x ∈ l, 0 ≤ x ∧ x ≤ 65535) :
    ∃ S : ByteArray, (∀ W, Calls Tryd.prog 6 #[.agg (mat r c l)] W fun e w' => e = .returned (.string S) ∧ Below W.heap.size W w') ∧
      ∀ W, LaidPow W → Calls Tryd.prog 8 #[.agg (mat r c l)] W fun e w' => e = .returned (.string S) ∧ Below W.heap.size W w' := by
  cases ho : okM r c l with
  | false => exact ⟨_, specMT_no r c l hl hb ho, fun W _ => implMT_no r c l hl hb ho W⟩
  | true =>
    have hin := ho
    unfold okM at hin
    rw [Bool.and_eq_true, Bool.and_eq_true] at hin
    obtain ⟨r1, r2⟩ := inB_iff.1 hin.1.1
    obtain ⟨c1, c2⟩ := inB_iff.1 hin.1.2
    clear hin
    obtain ⟨R, rfl⟩ := Int.eq_ofNat_of_zero_le (by omega : 0 ≤ r)
    obtain ⟨C, rfl⟩ := Int.eq_ofNat_of_zero_le (by omega : 0 ≤ c)
    have hle : ∀ i, (cut l C i).length ≤ 6 := fun i => Nat.le_trans (cut_le l C i) (by omega)
    have hmem : ∀ i, ∀ x ∈ cut l C i, 0 ≤ x ∧ x ≤ 65535 := fun i x h => hx x (cut_mem h)
    obtain ⟨k, h1, h2⟩ := Pure.rows_text R (cut l C) (fun i _ => hle i) hmem
    have hz : ∀ i, i < 6 → (Pure.rowT (cut l C i)).size ≤ 400000 := fun i _ => Pure.rowT_size _ (hmem i) (hle i)
    have hs := joinT_size (fun i => Pure.rowT (cut l C i)) hz R (by omega)
    refine ⟨_, specMT_yes k R C l (fun i => Pure.rowT (cut l C i)) hl ⟨by omega, by omega⟩ ⟨by omega, by omega⟩ ho h1 hz, fun W hp => implMT_yes k R C l (fun i => Pure.rowT (cut l C i)) _ hl ⟨by omega, by omega⟩ ⟨by omega, by omega⟩ ho h2 ?_ W hp⟩
    unfold strings_Join.f
    rw [joined]
    exact if_pos ⟨by rw [List.length_map, List.length_range]; omega, by omega⟩
set_option maxHeartbeats 800000 in
set_option maxRecDepth 100000 in
theorem law_MatrixText (r c : Int) (l : List Int) (hl : l.length = 36) (hb : I8 r c) (hx : ∀ x ∈ l, 0 ≤ x ∧ x ≤ 65535) (w : World) (hp : LaidPow w) :
    Calls Tryd.prog 3 #[.agg (mat r c l)] w fun e w' => e = .returned (.bool true) ∧ Below w.heap.size w w' := by
  obtain ⟨S, h1, h2⟩ := both_MT r c l hl hb hx
  have H1 := Aside0.mk h1
  have H2 := Aside0.mk h2
  have HP := Aside0.mk hp
  have HS := Aside0.mk (mat_size r c l hl)
  have HX := Aside0.mk (Bx.start w (.cells (mat r c l) 27))
  have HM := Aside0.mk (fun W => toM r c l hl W)
  clear h1 h2 hp hl hb hx
  go_enter Tryd.func3, Tryd.ntmps3
  go_wp2_with (first
    | (refine wpList_load_row rfl 27 _ rfl w.heap.size rfl 27 _ (0, 0) _ HX.out.hg Tryd.underlying27 rfl (size27.trans (congrArg some HS.out.symm)) ?_)
    | (go_at_call 7; refine (HM.out _).mono ?_; rintro e w2 ⟨rfl, hb2⟩; replace HX := Aside0.mk (HX.out.step hb2); clear hb2)
    | (go_at_call 6; refine (H1.out _).mono ?_; rintro e w2 ⟨rfl, hb2⟩; replace HX := Aside0.mk (HX.out.step hb2); clear hb2)
    | (go_at_call 8; refine (H2.out _ (LaidPow.below HP.out HX.out.hb)).mono ?_; rintro e w2 ⟨rfl, hb2⟩; replace HX := Aside0.mk (HX.out.step hb2); clear hb2))
  go_ret
  exact ⟨rfl, HX.out.hb⟩
end Go.Proofs.YtdgglnjegkmamaaDoor.Mx
