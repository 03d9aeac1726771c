/- PlusMatrix, the program's, and its law. No condition but the lengths and the kinds' bounds. -/
import Derived.Test.YtjffoemohcebjaaMx12
set_option linter.unusedVariables false
set_option linter.unusedSimpArgs false
namespace Go.Proofs.Ytjffoemohcebjaa.Mx
open Go.RowKit Go.Proofs.Ytjffoemohcebjaa.Arr Go.Proofs.YtjffoemohcebjaaW.PrintWords Go.Proofs.YtjffoemohcebjaaW.PrintLast

theorem wpList_load_guarded {P : Program} {ops : Array Oper} {rest : List Oper} {o : Oper} {a : Act} {w : World} {Q : Exit → Act → World → Prop} (ty : TypeId) (x : Operand) (ho : o.op = .load ty x)
    (g : Nat) (hx : a.eval x = .pointer (some ⟨g, 0, none⟩)) (t : TypeId) (cs : Array Value) (fr : Nat × Nat) (d : TypeDesc) (hg : w.heap[g]? = some (.cells cs t fr))
    (hu : P.underlying ty = some d) (hd : (match d with | .struct _ | .array _ _ => true | _ => false) = true) (hi : (P.info? ty).map (·.size) = some cs.size) (hw : Region.wanted o (yielded ops a.tmps) = true)
    (h : wpList P ops Q rest (a.put o.dst (.agg cs)) w) : wpList P ops Q (o :: rest) a w := by
  unfold wpList
  rw [if_pos hw]
  exact .inl (wp_load_row ty x ho g hx t cs fr d hg hu hd hi h)
set_option maxHeartbeats 1600000 in
set_option maxRecDepth 100000 in
theorem implPlus_no (r c : Int) (a : List Int) (ha : a.length = 36) (hb : I8 r c) (r' c' : Int) (b : List Int) (hb' : b.length = 36) (hi' : I8 r' c') (E : Int) (hE : (okM r c a = false ∧ E = 1) ∨ (okM r c a = true ∧ okM r' c' b = false ∧ E = 1) ∨ (okM r c a = true ∧ okM r' c' b = true ∧ (r != r') = true ∧ E = 4) ∨ (okM r c a = true ∧ okM r' c' b = true ∧ r = r' ∧ (c != c') = true ∧ E = 4)) (w : World) :
    Calls Try.prog 22 #[.agg (mat r c a), .agg (mat r' c' b)] w fun e w' => e = .returned (.tuple #[.agg (mat 0 0 z36), .int .i64 E]) ∧ Below w.heap.size w w' := by
  have HL := Aside0.mk ha
  have HI := Aside0.mk hb
  have HL' := Aside0.mk hb'
  have HI' := Aside0.mk hi'
  have HX := Aside0.mk (Bx3.start w (.cells (mat r c a) 33) (.cells (mat r' c' b) 33) (.cells (mat 0 0 z36) 33))
  have HM := Aside0.mk (mat_size r c a ha)
  have HM' := Aside0.mk (mat_size r' c' b hb')
  have hz := zero33
  have hne := zne
  have hzs := zsize
  have HS := Aside0.mk hzs
  clear ha hb hb' hi'
  rcases hE with ⟨hv, rfl⟩ | ⟨hv, hv', rfl⟩ | ⟨hv, hv', hr, rfl⟩ | ⟨hv, hv', rfl, hr, rfl⟩
  all_goals
    (have HV := Aside0.mk hv; (try have HV' := Aside0.mk hv'); clear hv; (try clear hv'))
    go_enter Try.func22, Try.ntmps22
    go_wp2_with (first
      | (refine wpList_load_row rfl 33 _ rfl w.heap.size rfl 33 _ (0, 0) _ HX.out.h1 Try.underlying33 rfl (size33.trans (congrArg some HM.out.symm)) ?_)
      | (refine wpList_load_guarded 33 _ rfl (w.heap.size + 1) rfl 33 _ (0, 0) _ HX.out.h2 Try.underlying33 rfl (size33.trans (congrArg some HM'.out.symm)) ?hw ?_; (case hw => first | rfl | (go_simp; done)))
      | (go_at_call 13; ((with_reducible refine (implValid _ c a HL.out HI.out _).mono ?_)); rw [HV.out]; rintro e w2 ⟨rfl, hb2⟩; replace HX := Aside0.mk (HX.out.step hb2); have g0 := mat_cell0 HX.out.h1; have g1 := mat_cell1 HX.out.h1; have g0' := mat_cell0 HX.out.h2; have g1' := mat_cell1 HX.out.h2; clear hb2)
      | (go_at_call 13; ((with_reducible refine (implValid _ c' b HL'.out HI'.out _).mono ?_)); rw [HV'.out]; rintro e w3 ⟨rfl, hb2⟩; replace HX := Aside0.mk (HX.out.step hb2); have g0 := mat_cell0 HX.out.h1; have g1 := mat_cell1 HX.out.h1; have g0' := mat_cell0 HX.out.h2; have g1' := mat_cell1 HX.out.h2; clear hb2)
      | (refine wpList_store_row rfl 33 _ _ rfl (w.heap.size + 1 + 1) _ rfl rfl 33 _ HX.out.h3 (size33.trans (congrArg some HS.out.symm)) rfl (mat_all _ _ _) ?_))
    refine bodyPost_ret (results_pair rfl _ _ (w.heap.size + 1 + 1) 33 _ (0, 0) _ _ rfl rfl (heap_setRow_same HX.out.h3) Try.underlying33 rfl (size33.trans (congrArg some HS.out.symm))) rfl ⟨rfl, ?_⟩
    exact below_setRow HX.out.hb (by omega) _
set_option maxHeartbeats 1600000 in
set_option maxRecDepth 100000 in
theorem implPlus_yes (r c : Int) (a : List Int) (ha : a.length = 36) (hb : I8 r c) (b : List Int) (hb' : b.length = 36) (hv : okM r c a = true) (hv' : okM r c b = true) (w : World) :
    Calls Try.prog 22 #[.agg (mat r c a), .agg (mat r c b)] w fun e w' => e = .returned (.tuple #[.agg (mat r c (plusL a b)), .int .i64 0]) ∧ Below w.heap.size w w' := by
  have HL := Aside0.mk ha
  have HI := Aside0.mk hb
  have HL' := Aside0.mk hb'
  have HV := Aside0.mk hv
  have HV' := Aside0.mk hv'
  obtain ⟨b1, b2, b3, b4⟩ := okM_bounds hv
  have HM := Aside0.mk (mat_size r c a ha)
  have HM' := Aside0.mk (mat_size r c b hb')
  have HX := Aside0.mk (Bx3.start w (.cells (mat r c a) 33) (.cells (mat r c b) 33) (.cells (mat 0 0 z36) 33))
  have hz := zero33
  have HT := Aside0.mk (mat_size r c (plusL a b) (matP_len _))
  clear ha hb hb' hv hv'
  go_enter Try.func22, Try.ntmps22
  go_wp2_with (first
    | (refine wpList_load_row rfl 33 _ rfl w.heap.size rfl 33 _ (0, 0) _ HX.out.h1 Try.underlying33 rfl (size33.trans (congrArg some HM.out.symm)) ?_)
    | (refine wpList_load_guarded 33 _ rfl (w.heap.size + 1) rfl 33 _ (0, 0) _ HX.out.h2 Try.underlying33 rfl (size33.trans (congrArg some HM'.out.symm)) ?hw ?_; (case hw => first | rfl | (go_simp; done)))
    | (go_at_call 13; ((with_reducible refine (implValid r c a HL.out HI.out _).mono ?_)); rw [HV.out]; rintro e w2 ⟨rfl, hb2⟩; replace HX := Aside0.mk (HX.out.step hb2); clear hb2)
    | (go_at_call 13; ((with_reducible refine (implValid r c b HL'.out HI.out _).mono ?_)); rw [HV'.out]; rintro e w3 ⟨rfl, hb2⟩; replace HX := Aside0.mk (HX.out.step hb2); have g0 := mat_cell0 HX.out.h1; have g1 := mat_cell1 HX.out.h1; have g0' := mat_cell0 HX.out.h2; have g1' := mat_cell1 HX.out.h2; clear hb2))
  go_loopw [34] (fun i w' => ∃ n : Nat, (n : Int) ≤ r ∧ i = .int .i8 n ∧ Aside0 (Bx3 w w' (.cells (mat r c (matP (plusH c a b n 0))) 33) (.cells (mat r c b) 33) (.cells (mat 0 0 z36) 33))) (fun i w' => 6 - (intOf i).toNat)
  case atStart => exact ⟨0, by omega, rfl, ⟨by rw [plusH_start c a b HL.out]; exact HX.out⟩⟩
  case round =>
    clear HX
    obtain ⟨n, hn, rfl, HT3⟩ := hrel
    have hw8 := i8_next (n := n) (by omega)
    have g2 := mat_cell1 HT3.out.h1
    by_cases hltn : (n : Int) < r
    · go_wp2_with fail
      go_loopw [39] (fun k w' => ∃ q : Nat, (q : Int) ≤ c ∧ k = .int .i8 q ∧ Aside0 (Bx3 w w' (.cells (mat r c (matP (plusH c a b n q))) 33) (.cells (mat r c b) 33) (.cells (mat 0 0 z36) 33))) (fun k w' => 6 - (intOf k).toNat)
      case atStart => exact ⟨0, by omega, rfl, HT3⟩
      case round =>
        clear HT3
        obtain ⟨q, hq, rfl, HT3⟩ := hrel
        have hv8 := i8_next (n := q) (by omega)
        by_cases hlq : (q : Int) < c
        · have gx := mat_cell HT3.out.h1 (matP_len _) (i := n) (k := q) (by omega) (by omega)
          rw [plusH_at c a b (by omega) (by omega)] at gx
          have gy := mat_cell HT3.out.h2 HL'.out (i := n) (k := q) (by omega) (by omega)
          have gf : wr.frozen? ⟨w.heap.size, 2 + n * 6 + q, none⟩ = false := frozen_of_row _ _ _ _ _ HT3.out.h1
          have HS := Aside0.mk (plusH_set c a b n q (by omega) (by omega))
          generalize a.getD (n * 6 + q) 0 = x at gx HS
          generalize b.getD (n * 6 + q) 0 = y at gy HS
          go_wp2_with fail
          go_region
          all_goals go_wp2_with fail
          all_goals exact ⟨⟨q + 1, by omega, by go_num, (by first | exact ⟨HT3.out.set n q _ HS.out⟩ | exact ⟨(HT3.out.set n q _ HS.out).drewN 1⟩)⟩, by simp [intOf]; omega⟩
        · go_wp2_with fail
          exact ⟨⟨n + 1, by omega, by go_num, ⟨by rw [← plusH_row c a b n q (by omega)]; exact HT3.out⟩⟩, by simp [intOf]; omega⟩
    · have H := HT3.out
      rw [plusH_all r c a b HV.out HV'.out n (by omega)] at H
      have HT' := Aside0.mk H
      clear H HT3
      go_wp2_with (first
        | (refine wpList_load_row rfl 33 _ rfl w.heap.size rfl 33 _ (0, 0) _ HT'.out.h1 Try.underlying33 rfl (size33.trans (congrArg some HT.out.symm)) ?_)
        | (refine wpList_store_row rfl 33 _ _ rfl (w.heap.size + 1 + 1) _ rfl rfl 33 _ HT'.out.h3 (size33.trans (congrArg some HT.out.symm)) (zsize.trans HT.out.symm) (mat_all _ _ _) ?_))
      refine bodyPost_ret (results_pair rfl _ _ (w.heap.size + 1 + 1) 33 _ (0, 0) _ _ rfl rfl (heap_setRow_same HT'.out.h3) Try.underlying33 rfl (size33.trans (congrArg some HT.out.symm))) rfl ⟨rfl, ?_⟩
      exact below_setRow HT'.out.hb (by omega) _
theorem plus_case (r c : Int) (a : List Int) (r' c' : Int) (b : List Int) :
    (plusE r c a r' c' b = 0 ∧ okM r c a = true ∧ okM r' c' b = true ∧ r = r' ∧ c = c') ∨ (plusE r c a r' c' b ≠ 0 ∧ ((okM r c a = false ∧ plusE r c a r' c' b = 1) ∨ (okM r c a = true ∧ okM r' c' b = false ∧ plusE r c a r' c' b = 1) ∨ (okM r c a = true ∧ okM r' c' b = true ∧ (r != r') = true ∧ plusE r c a r' c' b = 4) ∨ (okM r c a = true ∧ okM r' c' b = true ∧ r = r' ∧ (c != c') = true ∧ plusE r c a r' c' b = 4))) := by
  unfold plusE
  by_cases h1 : r = r' <;> by_cases h2 : c = c' <;> cases okM r c a <;> cases okM r' c' b <;> simp [h1, h2]
theorem specPlus (r c : Int) (a : List Int) (ha : a.length = 36) (hb : I8 r c) (r' c' : Int) (b : List Int) (hb' : b.length = 36) (hi' : I8 r' c') (w : World) :
    Calls Try.prog 21 #[.agg (mat r c a), .agg (mat r' c' b)] w fun e w' => e = .returned (.tuple #[.agg (mat (plusR r c a r' c' b) (plusC r c a r' c' b) (plusM r c a r' c' b)), .int .i64 (plusE r c a r' c' b)]) ∧ Below w.heap.size w w' := by
  unfold plusR plusC plusM
  rcases plus_case r c a r' c' b with ⟨h, hv, hv', rfl, rfl⟩ | ⟨h, h2⟩
  · rw [if_pos h, if_pos h, if_pos h, h]
    exact specPlus_yes r c a ha hb b hb' hv hv' w
  · rw [if_neg h, if_neg h, if_neg h]
    exact specPlus_no r c a ha hb r' c' b hb' hi' _ h2 w
theorem implPlus (r c : Int) (a : List Int) (ha : a.length = 36) (hb : I8 r c) (r' c' : Int) (b : List Int) (hb' : b.length = 36) (hi' : I8 r' c') (w : World) :
    Calls Try.prog 22 #[.agg (mat r c a), .agg (mat r' c' b)] w fun e w' => e = .returned (.tuple #[.agg (mat (plusR r c a r' c' b) (plusC r c a r' c' b) (plusM r c a r' c' b)), .int .i64 (plusE r c a r' c' b)]) ∧ Below w.heap.size w w' := by
  unfold plusR plusC plusM
  rcases plus_case r c a r' c' b with ⟨h, hv, hv', rfl, rfl⟩ | ⟨h, h2⟩
  · rw [if_pos h, if_pos h, if_pos h, h]
    exact implPlus_yes r c a ha hb b hb' hv hv' w
  · rw [if_neg h, if_neg h, if_neg h]
    exact implPlus_no r c a ha hb r' c' b hb' hi' _ h2 w
theorem Bx2.stored {w w2 : World} {o1 o2 : Obj} (h : Bx2 w w2 o1 o2) (A : Obj) (T : Array Value) : Bx2 w ((w2.alloc A).setRow w2.heap.size T) o1 o2 :=
  ⟨below_stored h.hb (by have := h.size; omega) A T, keep_stored h.h1 A T, keep_stored h.h2 A T⟩
end Go.Proofs.Ytjffoemohcebjaa.Mx
