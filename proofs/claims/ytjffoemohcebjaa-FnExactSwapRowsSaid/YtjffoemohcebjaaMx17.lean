/- SwapRows, of both programs, and its law. No condition but the lengths and the kinds' bounds. -/
import Derived.Test.YtjffoemohcebjaaMx16
set_option linter.unusedVariables false
set_option linter.unusedSimpArgs false
namespace Go.Proofs.Ytjffoemohcebjaa.Mx
open Go.RowKit Go.Proofs.Ytjffoemohcebjaa.Arr Go.Proofs.YtjffoemohcebjaaW.PrintWords Go.Proofs.YtjffoemohcebjaaW.PrintLast

set_option maxHeartbeats 800000 in
set_option maxRecDepth 100000 in
theorem implSwap_no (r c : Int) (l : List Int) (hl : l.length = 36) (hb : I8 r c) (x y : Int) (hv : rowE r c l x y ≠ 0) (w : World) :
    Calls Try.prog 24 #[.agg (mat r c l), .int .i64 x, .int .i64 y] w fun e w' => e = .returned (.tuple #[.agg (mat 0 0 z36), .int .i64 (rowE r c l x y)]) ∧ Below w.heap.size w w' := by
  have hn : (rowE r c l x y != 0) = true := by simpa using hv
  have H := Aside0.mk (rowCode r c l hl hb x y)
  have HX := Aside0.mk (Bx2.start w (.cells (mat r c l) 33) (.cells (mat 0 0 z36) 33))
  have HM := Aside0.mk (mat_size r c l hl)
  have hz := zero33
  have hne := zne
  have hzs := zsize
  have HS := Aside0.mk hzs
  clear hl hb hv
  generalize rowE r c l x y = q at hn H ⊢
  go_enter Try.func24, Try.ntmps24
  go_wp2_with (first
    | (refine wpList_load_row rfl 33 _ rfl w.heap.size rfl 33 _ (0, 0) _ HX.out.h1 Try.underlying33 rfl (size33.trans (congrArg some HM.out.symm)) ?_)
    | (go_at_call 42; refine (H.out _).mono ?_; rintro e w2 ⟨rfl, hb2⟩; replace HX := Aside0.mk (HX.out.step hb2); clear hb2)
    | (refine wpList_store_row rfl 33 _ _ rfl (w.heap.size + 1) _ rfl rfl 33 _ HX.out.h2 (size33.trans (congrArg some HS.out.symm)) rfl (mat_all _ _ _) ?_))
  refine bodyPost_ret (results_pair rfl _ _ (w.heap.size + 1) 33 _ (0, 0) _ _ rfl rfl (heap_setRow_same HX.out.h2) Try.underlying33 rfl (size33.trans (congrArg some HS.out.symm))) rfl ⟨rfl, ?_⟩
  exact below_setRow HX.out.hb (by omega) _
set_option maxHeartbeats 800000 in
set_option maxRecDepth 100000 in
theorem specSwap_no (r c : Int) (l : List Int) (hl : l.length = 36) (hb : I8 r c) (x y : Int) (hv : rowE r c l x y ≠ 0) (w : World) :
    Calls Try.prog 23 #[.agg (mat r c l), .int .i64 x, .int .i64 y] w fun e w' => e = .returned (.tuple #[.agg (mat 0 0 z36), .int .i64 (rowE r c l x y)]) ∧ Below w.heap.size w w' := by
  have hn : (rowE r c l x y != 0) = true := by simpa using hv
  have HL := Aside0.mk hl
  have HI := Aside0.mk hb
  have HX := Aside0.mk (Bx2.start w (.cells (mat r c l) 33) (.cells (mat 0 0 z36) 33))
  have hz := zero33
  have hne := zne
  have hzs := zsize
  have HS := Aside0.mk hzs
  clear hl hb hv
  have HQ := Aside0.mk (show ∀ q, rowE r c l x y = q → rowE r c l x y = q from fun _ h => h)
  generalize hq : rowE r c l x y = q at hn ⊢
  have HQ := Aside0.mk hq
  clear hq
  go_enter Try.func23, Try.ntmps23
  go_wp2_with (first
    | (go_at_call 40; refine (l02Row _ 33 r c l HL.out HI.out x y _ HX.out.h1).mono ?_; rw [HQ.out]; rintro e w1 ⟨rfl, ⟨n1, rfl⟩⟩; replace HX := Aside0.mk (HX.out.drewN n1))
    | (refine wpList_store_row rfl 33 _ _ rfl (w.heap.size + 1) _ rfl rfl 33 _ HX.out.h2 (size33.trans (congrArg some HS.out.symm)) rfl (mat_all _ _ _) ?_))
  refine bodyPost_ret (results_pair rfl _ _ (w.heap.size + 1) 33 _ (0, 0) _ _ rfl rfl (heap_setRow_same HX.out.h2) Try.underlying33 rfl (size33.trans (congrArg some HS.out.symm))) rfl ⟨rfl, ?_⟩
  exact below_setRow HX.out.hb (by omega) _
set_option maxHeartbeats 800000 in
set_option maxRecDepth 100000 in
theorem specSwap_yes (r c : Int) (l : List Int) (hl : l.length = 36) (hb : I8 r c) (a b : Nat) (ha : a < 6) (hb6 : b < 6) (hv : rowE r c l a b = 0) (w : World) :
    Calls Try.prog 23 #[.agg (mat r c l), .int .i64 a, .int .i64 b] w fun e w' => e = .returned (.tuple #[.agg (mat r c (swapL l a b)), .int .i64 0]) ∧ Below w.heap.size w w' := by
  have HL := Aside0.mk hl
  have HI := Aside0.mk hb
  have HQ := Aside0.mk hv
  have HX := Aside0.mk (Bx2.start w (.cells (mat r c l) 33) (.cells (mat 0 0 z36) 33))
  have hz := zero33
  have HT := Aside0.mk (mat_size r c (swapL l a b) (swapL_len l hl a b ha hb6))
  have HAB := Aside0.mk (And.intro ha hb6)
  clear hl hb hv
  go_enter Try.func23, Try.ntmps23
  go_wp2_with (first
    | (go_at_call 40; refine (l02Row _ 33 r c l HL.out HI.out a b _ HX.out.h1).mono ?_; rw [HQ.out]; rintro e w1 ⟨rfl, ⟨n1, rfl⟩⟩; replace HX := Aside0.mk (HX.out.drewN n1))
    | (go_at_call 41; refine (l02Swap _ r c l HL.out a b HAB.out.1 HAB.out.2 _ HX.out.h1).mono ?_; rintro e w2 ⟨rfl, hT⟩; have HY := Aside0.mk hT.hg; have HR := Aside0.mk ((hT.hk _ HX.out.size (by omega)).trans HX.out.h2); have HB := Aside0.mk (hT.hb _ _ HX.out.hb (Nat.le_refl _) (Nat.lt_of_succ_lt HX.out.size)); clear hT HX)
    | (refine wpList_load_row rfl 33 _ rfl w.heap.size rfl 33 _ (0, 0) _ HY.out Try.underlying33 rfl (size33.trans (congrArg some HT.out.symm)) ?_)
    | (refine wpList_store_row rfl 33 _ _ rfl (w.heap.size + 1) _ rfl rfl 33 _ HR.out (size33.trans (congrArg some HT.out.symm)) (zsize.trans HT.out.symm) (mat_all _ _ _) ?_))
  refine bodyPost_ret (results_pair rfl _ _ (w.heap.size + 1) 33 _ (0, 0) _ _ rfl rfl (heap_setRow_same HR.out) Try.underlying33 rfl (size33.trans (congrArg some HT.out.symm))) rfl ⟨rfl, ?_⟩
  exact below_setRow HB.out (by omega) _
def swR (r c : Int) (l : List Int) (x y : Int) : Int := if rowE r c l x y = 0 then r else 0
def swC (r c : Int) (l : List Int) (x y : Int) : Int := if rowE r c l x y = 0 then c else 0
def swM (r c : Int) (l : List Int) (x y : Int) : List Int := if rowE r c l x y = 0 then swapL l x.toNat y.toNat else z36
theorem row_in {r c : Int} {l : List Int} {x y : Int} (h : rowE r c l x y = 0) : ∃ a b : Nat, x = a ∧ y = b ∧ a < 6 ∧ b < 6 := by
  unfold rowE at h
  by_cases h1 : okM r c l = true
  · rw [if_pos h1] at h
    have hb := okM_bounds h1
    by_cases h2 : rowIn r x y = true
    · unfold rowIn at h2
      simp only [Bool.and_eq_true] at h2
      have hx := inB_iff.1 h2.1
      have hy := inB_iff.1 h2.2
      exact ⟨x.toNat, y.toNat, by omega, by omega, by omega, by omega⟩
    · rw [if_neg h2] at h; cases h
  · rw [if_neg h1] at h; cases h
theorem swM_len (r c : Int) (l : List Int) (hl : l.length = 36) (x y : Int) : (swM r c l x y).length = 36 := by
  unfold swM
  by_cases h : rowE r c l x y = 0
  · rw [if_pos h]
    obtain ⟨a, b, rfl, rfl, h1, h2⟩ := row_in h
    exact swapL_len l hl _ _ (by omega) (by omega)
  · rw [if_neg h]
    rfl
theorem specSwap (r c : Int) (l : List Int) (hl : l.length = 36) (hb : I8 r c) (x y : Int) (w : World) :
    Calls Try.prog 23 #[.agg (mat r c l), .int .i64 x, .int .i64 y] w fun e w' => e = .returned (.tuple #[.agg (mat (swR r c l x y) (swC r c l x y) (swM r c l x y)), .int .i64 (rowE r c l x y)]) ∧ Below w.heap.size w w' := by
  unfold swR swC swM
  by_cases h : rowE r c l x y = 0
  · obtain ⟨a, b, rfl, rfl, h1, h2⟩ := row_in h
    rw [if_pos h, if_pos h, if_pos h, h, Int.toNat_natCast, Int.toNat_natCast]
    exact specSwap_yes r c l hl hb a b h1 h2 h w
  · rw [if_neg h, if_neg h, if_neg h]
    exact specSwap_no r c l hl hb x y h w
theorem implSwap (r c : Int) (l : List Int) (hl : l.length = 36) (hb : I8 r c) (x y : Int) (w : World) :
    Calls Try.prog 24 #[.agg (mat r c l), .int .i64 x, .int .i64 y] w fun e w' => e = .returned (.tuple #[.agg (mat (swR r c l x y) (swC r c l x y) (swM r c l x y)), .int .i64 (rowE r c l x y)]) ∧ Below w.heap.size w w' := by
  unfold swR swC swM
  by_cases h : rowE r c l x y = 0
  · obtain ⟨a, b, rfl, rfl, h1, h2⟩ := row_in h
    rw [if_pos h, if_pos h, if_pos h, h, Int.toNat_natCast, Int.toNat_natCast]
    exact implSwap_yes r c l hl hb a b h1 h2 h w
  · rw [if_neg h, if_neg h, if_neg h]
    exact implSwap_no r c l hl hb x y h w
set_option maxHeartbeats 1600000 in
set_option maxRecDepth 100000 in
theorem law_SwapRows (r c : Int) (l : List Int) (hl : l.length = 36) (hb : I8 r c) (hx : ∀ x ∈ l, 0 ≤ x ∧ x ≤ 65535) (x : Int) (hwx : (Lit.int .i64 x).wf = true) (y : Int) (hwy : (Lit.int .i64 y).wf = true) (w : World) :
    Calls Try.prog 8 #[.agg (mat r c l), .int .i64 x, .int .i64 y] w fun e w' => e = .returned (.bool true) ∧ Below w.heap.size w w' := by
  have HL := Aside0.mk hl
  have HS := Aside0.mk (mat_size r c l hl)
  have HX := Aside0.mk (Bx.start w (.cells (mat r c l) 27))
  have H1 := Aside0.mk (specSwap r c l hl hb x y)
  have H2 := Aside0.mk (implSwap r c l hl hb x y)
  have HE := Aside0.mk (eqM (swR r c l x y) (swC r c l x y) (swM r c l x y) (swM_len r c l hl x y))
  have HN := Aside0.mk (mat_size (swR r c l x y) (swC r c l x y) (swM r c l x y) (swM_len r c l hl x y))
  have HA := Aside0.mk (mat_all (swR r c l x y) (swC r c l x y) (swM r c l x y))
  clear hl hb hx hwx hwy
  generalize mat (swR r c l x y) (swC r c l x y) (swM r c l x y) = T at H1 H2 HE HN HA
  generalize rowE r c l x y = q at H1 H2
  have hz := zero33
  go_enter Try.func8, Try.ntmps8
  go_wp2_with (first
    | (refine wpList_load_row rfl 27 _ rfl w.heap.size rfl 27 _ (0, 0) _ HX.out.hg Try.underlying27 rfl (size27.trans (congrArg some HS.out.symm)) ?_)
    | (refine wpList_load_row rfl 33 _ rfl wS.heap.size rfl 33 _ (0, 0) _ HW.out Try.underlying33 rfl (size33.trans (congrArg some HN.out.symm)) ?_)
    | (refine wpList_load_row rfl 33 _ rfl wG.heap.size rfl 33 _ (0, 0) _ HG.out Try.underlying33 rfl (size33.trans (congrArg some HN.out.symm)) ?_)
    | (refine wpList_store_row rfl 33 _ _ rfl wS.heap.size _ rfl rfl 33 _ (heap_at _ _ _ rfl) (size33.trans (congrArg some HN.out.symm)) (zsize.trans HN.out.symm) HA.out ?_; replace HX := Aside0.mk (Bx.stored HX.out (.cells (mat 0 0 z36) 33) T); have HW := Aside0.mk (stored_at wS (mat 0 0 z36) T 33))
    | (refine wpList_store_row rfl 33 _ _ rfl wG.heap.size _ rfl rfl 33 _ (heap_at _ _ _ rfl) (size33.trans (congrArg some HN.out.symm)) (zsize.trans HN.out.symm) HA.out ?_; replace HX := Aside0.mk (Bx.stored HX.out (.cells (mat 0 0 z36) 33) T); replace HW := Aside0.mk (keep_stored HW.out (.cells (mat 0 0 z36) 33) T); have HG := Aside0.mk (stored_at wG (mat 0 0 z36) T 33))
    | (go_at_call 12; refine (toM r c l HL.out _).mono ?_; rintro e w2 ⟨rfl, hb2⟩; replace HX := Aside0.mk (HX.out.step hb2); (try replace HW := Aside0.mk (keep_step HW.out hb2)); clear hb2)
    | (go_at_call 23; refine (H1.out _).mono ?_; rintro e wS ⟨rfl, hb2⟩; replace HX := Aside0.mk (HX.out.step hb2); clear hb2)
    | (go_at_call 24; refine (H2.out _).mono ?_; rintro e wG ⟨rfl, hb2⟩; replace HX := Aside0.mk (HX.out.step hb2); replace HW := Aside0.mk (keep_step HW.out hb2); clear hb2)
    | (go_at_call 16; refine (HE.out _).mono ?_; rintro e w2 ⟨rfl, hb2⟩; replace HX := Aside0.mk (HX.out.step hb2); clear hb2))
  go_ret
  exact ⟨rfl, HX.out.hb⟩
end Go.Proofs.Ytjffoemohcebjaa.Mx
