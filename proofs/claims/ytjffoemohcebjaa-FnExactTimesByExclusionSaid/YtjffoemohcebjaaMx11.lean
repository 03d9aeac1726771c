/- OneMatrix, of both programs, and its law. No condition but the kinds' bounds. -/
import Derived.Test.YtjffoemohcebjaaMx10
set_option linter.unusedVariables false
set_option linter.unusedSimpArgs false
namespace Go.Proofs.Ytjffoemohcebjaa.Mx
open Go.RowKit Go.Proofs.Ytjffoemohcebjaa.Arr Go.Proofs.YtjffoemohcebjaaW.PrintWords Go.Proofs.YtjffoemohcebjaaW.PrintLast

def eyeG (i : Nat) (a b : Nat) : Int := if a = b ∧ a < i then 1 else 0
def eyeL (i : Nat) : List Int := matP (eyeG i)
theorem eye_start : eyeL 0 = z36 := by
  rw [z36_P]
  exact matP_congr (fun a b _ _ => by unfold eyeG; rw [if_neg (by omega)])
theorem eye_set (i : Nat) (hi : i < 6) : (eyeL i).set (i * 6 + i) 1 = eyeL (i + 1) := by
  unfold eyeL
  rw [matP_set _ _ _ _ hi hi]
  refine matP_congr (fun a b _ _ => ?_)
  unfold eyeG
  by_cases h : a = i ∧ b = i
  · rw [if_pos h, if_pos (by omega)]
  · rw [if_neg h]
    by_cases h2 : a = b ∧ a < i
    · rw [if_pos h2, if_pos (by omega)]
    · rw [if_neg h2, if_neg (by omega)]
structure St2 (N : Nat) (w w' : World) (z n : Nat) (oz on : Obj) : Prop where
  hb : Below N w w'
  hz : w'.heap[z]? = some oz
  ho : w'.heap[n]? = some on
theorem St2.drewN {N w w' z n oz on} (h : St2 N w w' z n oz on) (m : Nat) : St2 N w (w'.drewN m) z n oz on := ⟨pw_below_drewN h.hb m, h.hz, h.ho⟩
theorem St2.set {N : Nat} {w w' : World} {z n : Nat} {oz : Obj} {r c : Int} {m m' : List Int} (h : St2 N w w' z n oz (.cells (mat r c m) 33)) (h2 : z ≠ n) (h3 : N ≤ n) (i k : Nat) (x : Int) (e : m.set (i * 6 + k) x = m') : St2 N w (w'.setCell ⟨n, 2 + i * 6 + k, none⟩ (.int .u16 x)) z n oz (.cells (mat r c m') 33) where
  hb := h.hb.setCell h3 _
  hz := by rw [heap_setCell_other _ _ _ _ h2]; exact h.hz
  ho := by rw [heap_setCell_same _ _ _ _ _ _ h.ho, Nat.add_assoc, mat_set2, e]
theorem St2.start (w : World) (oz on : Obj) : St2 w.heap.size w ((w.alloc oz).alloc on) w.heap.size (w.heap.size + 1) oz on :=
  ⟨(Bx2.start w oz on).hb, (Bx2.start w oz on).h1, (Bx2.start w oz on).h2⟩
set_option maxHeartbeats 800000 in
set_option maxRecDepth 100000 in
theorem l02One (s : Nat) (h1 : 1 ≤ s) (h2 : s ≤ 6) (w : World) :
    Calls Try.prog 35 #[.int .i8 s] w fun e w' => e = .returned (.agg (mat s s (eyeL s))) ∧ Below w.heap.size w w' := by
  have HT := Aside0.mk (mat_size s s (eyeL s) (matP_len _))
  obtain ⟨Z, M, HZ, HMM, hz, hZ0, hbu, hst, hst', hsz, hsZ⟩ := lit_names s s
  go_enter Try.func35, Try.ntmps35
  go_wp2_with fail
  have hZ := HZ.out
  have hM := HMM.out
  clear HZ HMM hz hZ0 hbu hst hst' hsz hsZ
  subst hZ
  subst hM
  go_loopw [4] (fun i w' => ∃ n : Nat, n ≤ s ∧ i = .int .i64 n ∧ Aside0 (St2 w.heap.size w w' w.heap.size (w.heap.size + 1) (.cells (mat 0 0 z36) 33) (.cells (mat s s (eyeL n)) 33))) (fun i w' => 6 - (intOf i).toNat)
  case atStart => exact ⟨0, by omega, rfl, ⟨by rw [eye_start]; exact St2.start w _ _⟩⟩
  case round =>
    obtain ⟨n, hn, rfl, HT3⟩ := hrel
    by_cases hlt : n < s
    · have gy := mat_cell HT3.out.ho (matP_len _) (i := n) (k := n) (by omega) (by omega)
      have gf : wr.frozen? ⟨w.heap.size + 1, 2 + n * 6 + n, none⟩ = false := frozen_of_row _ _ _ _ _ HT3.out.ho
      have HS := Aside0.mk (eye_set n (by omega))
      have n6 : (n : Int) < 6 := by omega
      generalize (matP (eyeG n)).getD (n * 6 + n) 0 = y at gy
      go_wp2_with fail
      exact ⟨⟨n + 1, by omega, by go_num, ⟨HT3.out.set (by omega) (by omega) n n 1 HS.out⟩⟩, by simp [intOf]; omega⟩
    · obtain rfl : n = s := by omega
      go_wp2_with (first
        | (refine wpList_load_row rfl 33 _ rfl (w.heap.size + 1) rfl 33 _ (0, 0) _ HT3.out.ho Try.underlying33 rfl (size33.trans (congrArg some HT.out.symm)) ?_)
        | (refine wpList_store_row rfl 33 _ _ rfl w.heap.size _ rfl rfl 33 _ HT3.out.hz (size33.trans (congrArg some HT.out.symm)) (zsize.trans HT.out.symm) (mat_all _ _ _) ?_))
      refine bodyPost_ret (v := .agg (mat n n (eyeL n))) (results_cell_row rfl _ _ w.heap.size 33 _ (0, 0) _ rfl (heap_setRow_same HT3.out.hz) Try.underlying33 rfl (size33.trans (congrArg some HT.out.symm))) rfl ⟨rfl, ?_⟩
      exact below_setRow HT3.out.hb (Nat.le_refl _) _
set_option maxHeartbeats 800000 in
set_option maxRecDepth 100000 in
theorem implOne1 (s : Nat) (h1 : 1 ≤ s) (h2 : s ≤ 6) (w : World) :
    Calls Try.prog 36 #[.int .i8 s] w fun e w' => e = .returned (.agg (mat s s (eyeL s))) ∧ Below w.heap.size w w' := by
  have HT := Aside0.mk (mat_size s s (eyeL s) (matP_len _))
  obtain ⟨Z, M, HZ, HMM, hz, hZ0, hbu, hst, hst', hsz, hsZ⟩ := lit_names s s
  go_enter Try.func36, Try.ntmps36
  go_wp2_with fail
  have hZ := HZ.out
  have hM := HMM.out
  clear HZ HMM hz hZ0 hbu hst hst' hsz hsZ
  subst hZ
  subst hM
  go_loopw [9] (fun i w' => ∃ n : Nat, n ≤ s ∧ i = .int .i8 n ∧ Aside0 (St2 w.heap.size w w' w.heap.size (w.heap.size + 1) (.cells (mat 0 0 z36) 33) (.cells (mat s s (eyeL n)) 33))) (fun i w' => 6 - (intOf i).toNat)
  case atStart => exact ⟨0, by omega, rfl, ⟨by rw [eye_start]; exact St2.start w _ _⟩⟩
  case round =>
    obtain ⟨n, hn, rfl, HT3⟩ := hrel
    have hw8 := i8_next (n := n) (by omega)
    by_cases hlt : n < s
    · have gy := mat_cell HT3.out.ho (matP_len _) (i := n) (k := n) (by omega) (by omega)
      have gf : wr.frozen? ⟨w.heap.size + 1, 2 + n * 6 + n, none⟩ = false := frozen_of_row _ _ _ _ _ HT3.out.ho
      have HS := Aside0.mk (eye_set n (by omega))
      have n6 : (n : Int) < 6 := by omega
      generalize (matP (eyeG n)).getD (n * 6 + n) 0 = y at gy
      go_wp2_with fail
      exact ⟨⟨n + 1, by omega, by go_num, ⟨HT3.out.set (by omega) (by omega) n n 1 HS.out⟩⟩, by simp [intOf]; omega⟩
    · obtain rfl : n = s := by omega
      go_wp2_with (first
        | (refine wpList_load_row rfl 33 _ rfl (w.heap.size + 1) rfl 33 _ (0, 0) _ HT3.out.ho Try.underlying33 rfl (size33.trans (congrArg some HT.out.symm)) ?_)
        | (refine wpList_store_row rfl 33 _ _ rfl w.heap.size _ rfl rfl 33 _ HT3.out.hz (size33.trans (congrArg some HT.out.symm)) (zsize.trans HT.out.symm) (mat_all _ _ _) ?_))
      refine bodyPost_ret (v := .agg (mat n n (eyeL n))) (results_cell_row rfl _ _ w.heap.size 33 _ (0, 0) _ rfl (heap_setRow_same HT3.out.hz) Try.underlying33 rfl (size33.trans (congrArg some HT.out.symm))) rfl ⟨rfl, ?_⟩
      exact below_setRow HT3.out.hb (Nat.le_refl _) _
def oneS (s : Int) : Int := if inB s 1 6 = true then s else 0
def oneC (s : Int) : List Int := if inB s 1 6 = true then eyeL s.toNat else z36
def oneE (s : Int) : Int := if inB s 1 6 = true then 0 else 2
theorem oneC_len (s : Int) : (oneC s).length = 36 := by unfold oneC; split; exact matP_len _; rfl
set_option maxHeartbeats 800000 in
set_option maxRecDepth 100000 in
theorem specOne (s : Int) (w : World) :
    Calls Try.prog 14 #[.int .i64 s] w fun e w' => e = .returned (.tuple #[.agg (mat (oneS s) (oneS s) (oneC s)), .int .i64 (oneE s)]) ∧ Below w.heap.size w w' := by
  have HX := Aside0.mk (Bx.start w (.cells (mat 0 0 z36) 33))
  have hz := zero33
  have hne := zne
  have hzs := zsize
  have HS := Aside0.mk hzs
  unfold oneS oneC oneE
  cases hv : inB s 1 6 with
  | false =>
    go_enter Try.func14, Try.ntmps14
    go_wp2_with (first
      | (go_at_call 34; refine (l00In_any _ _ _ _).mono ?_; rintro e w1 ⟨rfl, ⟨n1, rfl⟩⟩; replace HX := Aside0.mk (HX.out.drewN n1))
      | (refine wpList_store_row rfl 33 _ _ rfl w.heap.size _ rfl rfl 33 _ HX.out.hg (size33.trans (congrArg some HS.out.symm)) rfl (mat_all _ _ _) ?_))
    refine bodyPost_ret (results_pair rfl _ _ w.heap.size 33 _ (0, 0) _ _ rfl rfl (heap_setRow_same HX.out.hg) Try.underlying33 rfl (size33.trans (congrArg some HS.out.symm))) rfl ⟨rfl, ?_⟩
    exact below_setRow HX.out.hb (by omega) _
  | true =>
    obtain ⟨a1, a2⟩ := inB_iff.1 hv
    obtain ⟨n, rfl⟩ := Int.eq_ofNat_of_zero_le (by omega : 0 ≤ s)
    have hw8 : IntKind.i8.wrap (n : Int) = (n : Int) := by
      have : n = 1 ∨ n = 2 ∨ n = 3 ∨ n = 4 ∨ n = 5 ∨ n = 6 := by omega
      rcases this with rfl | rfl | rfl | rfl | rfl | rfl <;> decide
    have HT := Aside0.mk (mat_size n n (eyeL n) (matP_len _))
    simp only [if_true, Int.toNat_natCast]
    have HB := Aside0.mk (show 1 ≤ n ∧ n ≤ 6 by omega)
    go_enter Try.func14, Try.ntmps14
    go_wp2_with (first
      | (go_at_call 34; refine (l00In_any _ _ _ _).mono ?_; rintro e w1 ⟨rfl, ⟨n1, rfl⟩⟩; replace HX := Aside0.mk (HX.out.drewN n1))
      | (go_at_call 35; refine (l02One n HB.out.1 HB.out.2 _).mono ?_; rintro e w2 ⟨rfl, hb2⟩; replace HX := Aside0.mk (HX.out.step hb2); clear hb2)
      | (refine wpList_store_row rfl 33 _ _ rfl w.heap.size _ rfl rfl 33 _ HX.out.hg (size33.trans (congrArg some HT.out.symm)) (HS.out.trans HT.out.symm) (mat_all _ _ _) ?_))
    refine bodyPost_ret (results_pair rfl _ _ w.heap.size 33 _ (0, 0) _ _ rfl rfl (heap_setRow_same HX.out.hg) Try.underlying33 rfl (size33.trans (congrArg some HT.out.symm))) rfl ⟨rfl, ?_⟩
    exact below_setRow HX.out.hb (by omega) _
set_option maxHeartbeats 800000 in
set_option maxRecDepth 100000 in
theorem implOne (s : Int) (w : World) :
    Calls Try.prog 15 #[.int .i64 s] w fun e w' => e = .returned (.tuple #[.agg (mat (oneS s) (oneS s) (oneC s)), .int .i64 (oneE s)]) ∧ Below w.heap.size w w' := by
  have HX := Aside0.mk (Bx.start w (.cells (mat 0 0 z36) 33))
  have hz := zero33
  have hne := zne
  have hzs := zsize
  have HS := Aside0.mk hzs
  unfold oneS oneC oneE
  cases hv : inB s 1 6 with
  | false =>
    go_enter Try.func15, Try.ntmps15
    go_wp2_with (first
      | (go_at_call 33; refine (within_any _ _ _ _).mono ?_; rintro e w1 ⟨rfl, ⟨n1, rfl⟩⟩; replace HX := Aside0.mk (HX.out.drewN n1))
      | (refine wpList_store_row rfl 33 _ _ rfl w.heap.size _ rfl rfl 33 _ HX.out.hg (size33.trans (congrArg some HS.out.symm)) rfl (mat_all _ _ _) ?_))
    refine bodyPost_ret (results_pair rfl _ _ w.heap.size 33 _ (0, 0) _ _ rfl rfl (heap_setRow_same HX.out.hg) Try.underlying33 rfl (size33.trans (congrArg some HS.out.symm))) rfl ⟨rfl, ?_⟩
    exact below_setRow HX.out.hb (by omega) _
  | true =>
    obtain ⟨a1, a2⟩ := inB_iff.1 hv
    obtain ⟨n, rfl⟩ := Int.eq_ofNat_of_zero_le (by omega : 0 ≤ s)
    have hw8 : IntKind.i8.wrap (n : Int) = (n : Int) := by
      have : n = 1 ∨ n = 2 ∨ n = 3 ∨ n = 4 ∨ n = 5 ∨ n = 6 := by omega
      rcases this with rfl | rfl | rfl | rfl | rfl | rfl <;> decide
    have HT := Aside0.mk (mat_size n n (eyeL n) (matP_len _))
    simp only [if_true, Int.toNat_natCast]
    have HB := Aside0.mk (show 1 ≤ n ∧ n ≤ 6 by omega)
    go_enter Try.func15, Try.ntmps15
    go_wp2_with (first
      | (go_at_call 33; refine (within_any _ _ _ _).mono ?_; rintro e w1 ⟨rfl, ⟨n1, rfl⟩⟩; replace HX := Aside0.mk (HX.out.drewN n1))
      | (go_at_call 36; refine (implOne1 n HB.out.1 HB.out.2 _).mono ?_; rintro e w2 ⟨rfl, hb2⟩; replace HX := Aside0.mk (HX.out.step hb2); clear hb2)
      | (refine wpList_store_row rfl 33 _ _ rfl w.heap.size _ rfl rfl 33 _ HX.out.hg (size33.trans (congrArg some HT.out.symm)) (HS.out.trans HT.out.symm) (mat_all _ _ _) ?_))
    refine bodyPost_ret (results_pair rfl _ _ w.heap.size 33 _ (0, 0) _ _ rfl rfl (heap_setRow_same HX.out.hg) Try.underlying33 rfl (size33.trans (congrArg some HT.out.symm))) rfl ⟨rfl, ?_⟩
    exact below_setRow HX.out.hb (by omega) _
theorem below_stored {N : Nat} {w w2 : World} (h : Below N w w2) (hN : N ≤ w2.heap.size) (A : Obj) (T : Array Value) : Below N w ((w2.alloc A).setRow w2.heap.size T) := below_setRow (h.alloc hN A) hN _
set_option maxHeartbeats 1600000 in
set_option maxRecDepth 100000 in
theorem law_OneMatrix (s : Int) (hs : (Lit.int .i64 s).wf = true) (w : World) :
    Calls Try.prog 4 #[.int .i64 s] w fun e w' => e = .returned (.bool true) ∧ Below w.heap.size w w' := by
  have HX := Aside0.mk (Below.refl w.heap.size w)
  have H1 := Aside0.mk (specOne s)
  have H2 := Aside0.mk (implOne s)
  have HE := Aside0.mk (eqM (oneS s) (oneS s) (oneC s) (oneC_len s))
  have HN := Aside0.mk (mat_size (oneS s) (oneS s) (oneC s) (oneC_len s))
  have HA := Aside0.mk (mat_all (oneS s) (oneS s) (oneC s))
  clear hs
  generalize mat (oneS s) (oneS s) (oneC s) = T at H1 H2 HE HN HA
  generalize oneE s = q at H1 H2
  have hz := zero33
  go_enter Try.func4, Try.ntmps4
  go_wp2_with (first
    | (refine wpList_load_row rfl 33 _ rfl wS.heap.size rfl 33 _ (0, 0) _ HW.out Try.underlying33 rfl (size33.trans (congrArg some HN.out.symm)) ?_)
    | (refine wpList_load_row rfl 33 _ rfl wG.heap.size rfl 33 _ (0, 0) _ HG.out Try.underlying33 rfl (size33.trans (congrArg some HN.out.symm)) ?_)
    | (refine wpList_store_row rfl 33 _ _ rfl wS.heap.size _ rfl rfl 33 _ (heap_at _ _ _ rfl) (size33.trans (congrArg some HN.out.symm)) (zsize.trans HN.out.symm) HA.out ?_; replace HX := Aside0.mk (below_stored HX.out HX.out.size (.cells (mat 0 0 z36) 33) T); have HW := Aside0.mk (stored_at wS (mat 0 0 z36) T 33))
    | (refine wpList_store_row rfl 33 _ _ rfl wG.heap.size _ rfl rfl 33 _ (heap_at _ _ _ rfl) (size33.trans (congrArg some HN.out.symm)) (zsize.trans HN.out.symm) HA.out ?_; replace HX := Aside0.mk (below_stored HX.out HX.out.size (.cells (mat 0 0 z36) 33) T); replace HW := Aside0.mk (keep_stored HW.out (.cells (mat 0 0 z36) 33) T); have HG := Aside0.mk (stored_at wG (mat 0 0 z36) T 33))
    | (go_at_call 14; refine (H1.out _).mono ?_; rintro e wS ⟨rfl, hb2⟩; replace HX := Aside0.mk (HX.out.trans (hb2.mono HX.out.size)); clear hb2)
    | (go_at_call 15; refine (H2.out _).mono ?_; rintro e wG ⟨rfl, hb2⟩; replace HX := Aside0.mk (HX.out.trans (hb2.mono HX.out.size)); replace HW := Aside0.mk (keep_step HW.out hb2); clear hb2)
    | (go_at_call 16; refine (HE.out _).mono ?_; rintro e w2 ⟨rfl, hb2⟩; replace HX := Aside0.mk (HX.out.trans (hb2.mono HX.out.size)); clear hb2))
  go_ret
  exact ⟨rfl, HX.out⟩
end Go.Proofs.Ytjffoemohcebjaa.Mx
