/- ReadMatrix's law: both programs read the same matrix, or none. No condition but the text's length and the library's variables. -/
import Derived.Test.YtdgglnjegkmamaaDoorMr2
import Derived.Test.YtdgglnjegkmamaaDoorPureFnExactReadMatrix
set_option linter.unusedVariables false
set_option linter.unusedSimpArgs false
namespace Go.Proofs.YtdgglnjegkmamaaDoor.Mx
open Go.RowKit Go.Proofs.YtdgglnjegkmamaaDoor.Arr Go.Proofs.YtdgglnjegkmamaaDoorW.PrintWords Go.Proofs.YtdgglnjegkmamaaDoorW.PrintLast Go.Proofs.YtdgglnjegkmamaaDoorW.PrintMore Go.Proofs.YtdgglnjegkmamaaDoor.QFnExactReadMatrix

theorem mxAll_len (L : Nat → Option (List Int)) : ∀ (d i : Nat) (c : Int) (M : List Int), i + d ≤ 6 → M.length = 36 → ∀ p, mxAll L d i c M = some p → p.2.length = 36 := by
  intro d
  induction d with
  | zero =>
    intro i c M _ hM p h
    obtain rfl := Option.some.inj h
    exact hM
  | succ d ih =>
    intro i c M hi hM p h
    unfold mxAll at h
    cases hs : mxStep c M i (L i) with
    | none => rw [hs] at h; cases h
    | some q =>
      rw [hs] at h
      refine ih (i + 1) q.1 q.2 (by omega) ?_ p h
      cases hL : L i with
      | none => rw [hL] at hs; cases hs
      | some l =>
        rw [hL] at hs
        unfold mxStep at hs
        simp only at hs
        by_cases hc : (1 ≤ l.length ∧ l.length ≤ 6) ∧ (i = 0 ∨ (l.length : Int) = c)
        · rw [if_pos hc] at hs
          obtain rfl := Option.some.inj hs
          exact putQ_len M l i l.length hM (by omega) (Nat.le_refl _) hc.1.2
        · rw [if_neg hc] at hs
          cases hs
theorem resM_mat (L : Nat → Option (List Int)) (n : Nat) (hn : n ≤ 6) : ∃ (r c : Int) (l : List Int), l.length = 36 ∧ resM n (mxAll L n 0 0 z36) = mat r c l := by
  cases h : mxAll L n 0 0 z36 with
  | none => exact ⟨0, 0, z36, rfl, rfl⟩
  | some p => exact ⟨n, p.1, p.2, mxAll_len L n 0 0 z36 (by omega) rfl p h, rfl⟩
/-- Both programs' answers. -/
theorem both_RM (s : ByteArray) (hs : s.size ≤ 1048576) : ∃ (r c : Int) (l : List Int) (q : Int), l.length = 36 ∧
    (∀ W, Calls Tryd.prog 9 #[.string s] W fun e w' => e = .returned (.tuple #[.agg (mat r c l), .int .i64 q]) ∧ Below W.heap.size W w') ∧
    ∀ W, LaidErr W → LaidMax W → LaidPow W → Calls Tryd.prog 10 #[.string s] W fun e w' => e = .returned (.tuple #[.agg (mat r c l), .int .i64 q]) ∧ Below W.heap.size W w' := by
  obtain ⟨k, ws, L, h1, h2, h3, h4⟩ := Pure.read_rows s hs
  by_cases hn : ws.length ≤ 6
  · obtain ⟨r, c, l, hl, e⟩ := resM_mat L ws.length hn
    have H1 := specRM k s ws L h1 hn h3 _ rfl
    have H2 := implRM k s ws L h2 hn h4 _ rfl
    rw [e] at H1 H2
    exact ⟨r, c, l, _, hl, H1, H2⟩
  · exact ⟨0, 0, z36, 5, rfl, fun W => specRM_long k s ws h1 (by omega) W, fun W _ hx _ => implRM_long s ws h2 (by omega) W hx⟩
theorem below_kept {w w2 : World} (h : Below w.heap.size w w2) (A : Obj) (T : Array Value) : Below w.heap.size w ((w2.alloc A).setRow w2.heap.size T) :=
  below_setRow (below_alloc h _) h.size _
set_option maxHeartbeats 1600000 in
set_option maxRecDepth 100000 in
theorem law_ReadMatrix (s : ByteArray) (w : World) (he : LaidErr w) (hx : LaidMax w) (hp : LaidPow w) :
    Calls Tryd.prog 4 #[.string s] w fun e w' => e = .returned (.bool true) ∧ Below w.heap.size w w' := by
  by_cases hb : (1048576 : Int) < (s.size : Int)
  · go_enter Tryd.func4, Tryd.ntmps4
    go_wp2_with fail
    go_ret
    exact ⟨rfl, Below.refl _ _⟩
  · obtain ⟨r, c, l, q, hl, h1, h2⟩ := both_RM s (by omega)
    have H1 := Aside0.mk h1
    have H2 := Aside0.mk (fun W (hB : Below w.heap.size w W) => h2 W (LaidErr.below he hB) (LaidMax.below hx hB) (LaidPow.below hp hB))
    have HE := Aside0.mk (eqM r c l hl)
    have HN := Aside0.mk (mat_size r c l hl)
    have HA := Aside0.mk (mat_all r c l)
    have HX := Aside0.mk (Below.refl w.heap.size w)
    clear he hx hp hl h1 h2
    generalize mat r c l = T at H1 H2 HE HN HA
    have hz := zero33
    go_enter Tryd.func4, Tryd.ntmps4
    go_wp2_with (first
      | (refine wpList_load_row rfl 33 _ rfl wS.heap.size rfl 33 _ (0, 0) _ HW.out Tryd.underlying33 rfl (size33.trans (congrArg some HN.out.symm)) ?_)
      | (refine wpList_load_row rfl 33 _ rfl wG.heap.size rfl 33 _ (0, 0) _ HG.out Tryd.underlying33 rfl (size33.trans (congrArg some HN.out.symm)) ?_)
      | (refine wpList_store_row rfl 33 _ _ rfl wS.heap.size _ rfl rfl 33 _ (heap_at _ _ _ rfl) (size33.trans (congrArg some HN.out.symm)) (zsize.trans HN.out.symm) HA.out ?_; replace HX := Aside0.mk (below_kept HX.out (.cells (mat 0 0 z36) 33) T); have HW := Aside0.mk (stored_at wS (mat 0 0 z36) T 33))
      | (refine wpList_store_row rfl 33 _ _ rfl wG.heap.size _ rfl rfl 33 _ (heap_at _ _ _ rfl) (size33.trans (congrArg some HN.out.symm)) (zsize.trans HN.out.symm) HA.out ?_; replace HX := Aside0.mk (below_kept HX.out (.cells (mat 0 0 z36) 33) T); replace HW := Aside0.mk (keep_stored HW.out (.cells (mat 0 0 z36) 33) T); have HG := Aside0.mk (stored_at wG (mat 0 0 z36) T 33))
      | (go_at_call 9; refine (H1.out _).mono ?_; rintro e wS ⟨rfl, hb2⟩; replace HX := Aside0.mk (below_step HX.out hb2); clear hb2)
      | (go_at_call 10; refine (H2.out _ HX.out).mono ?_; rintro e wG ⟨rfl, hb2⟩; replace HX := Aside0.mk (below_step HX.out hb2); replace HW := Aside0.mk (keep_step HW.out hb2); clear hb2)
      | (go_at_call 11; refine (HE.out _).mono ?_; rintro e w2 ⟨rfl, hb2⟩; replace HX := Aside0.mk (below_step HX.out hb2); clear hb2))
    go_ret
    exact ⟨rfl, HX.out⟩
end Go.Proofs.YtdgglnjegkmamaaDoor.Mx
