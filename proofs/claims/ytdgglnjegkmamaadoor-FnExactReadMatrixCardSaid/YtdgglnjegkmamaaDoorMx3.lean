/- A matrix's cells; toMatrix keeps them all. No condition but the lengths. -/
import Derived.Test.YtdgglnjegkmamaaDoorMx2
set_option linter.unusedVariables false
set_option linter.unusedSimpArgs false
namespace Go.Proofs.YtdgglnjegkmamaaDoor.Mx
open Go.RowKit Go.Proofs.YtdgglnjegkmamaaDoor.Arr Go.Proofs.YtdgglnjegkmamaaDoorW.PrintWords Go.Proofs.YtdgglnjegkmamaaDoorW.PrintLast

def mat (r c : Int) (l : List Int) : Array Value := (Value.int .i8 r :: Value.int .i8 c :: l.map (Value.int .u16)).toArray
theorem mat_size (r c : Int) (l : List Int) (hl : l.length = 36) : (mat r c l).size = 38 := by simp [mat, hl]
theorem mat_0 (r c : Int) (l : List Int) : (mat r c l)[0]? = some (.int .i8 r) := by simp [mat]
theorem mat_1 (r c : Int) (l : List Int) : (mat r c l)[1]? = some (.int .i8 c) := by simp [mat]
theorem mat_2 (r c : Int) (l : List Int) (j : Nat) : (mat r c l)[2 + j]? = (l[j]?).map (Value.int .u16) := by
  rw [Nat.add_comm]
  simp [mat]
theorem mat_all (r c : Int) (l : List Int) : (mat r c l).all (·.oneCell') = true := by
  rw [Array.all_eq_true_iff_forall_mem]
  intro x hx
  simp only [mat, List.mem_toArray, List.mem_cons, List.mem_map] at hx
  rcases hx with rfl | rfl | ⟨y, _, rfl⟩ <;> rfl
theorem mat_set0 (r c : Int) (l : List Int) (x : Int) : (mat r c l).setIfInBounds 0 (.int .i8 x) = mat x c l := by simp [mat]
theorem mat_set1 (r c : Int) (l : List Int) (x : Int) : (mat r c l).setIfInBounds 1 (.int .i8 x) = mat r x l := by simp [mat]
theorem mat_set2 (r c : Int) (l : List Int) (j : Nat) (x : Int) : (mat r c l).setIfInBounds (2 + j) (.int .u16 x) = mat r c (l.set j x) := by
  rw [Nat.add_comm]
  simp [mat, List.map_set]
theorem mat_cells (r c : Int) (l : List Int) (hl : l.length = 36) : (mat r c l).extract 2 (2 + 36) = u16s l := by
  apply Array.ext_getElem?
  intro i
  rw [Array.getElem?_extract, mat_size r c l hl]
  by_cases h : i < 36
  · rw [if_pos (by omega), mat_2, u16s_get]
  · rw [if_neg (by omega), u16s_get, List.getElem?_eq_none (by omega)]
    rfl
theorem mat_put (r c : Int) (l m : List Int) (hl : l.length = 36) (hm : m.length = 36) : putAt (mat r c l) 2 (u16s m).toList = mat r c m := by
  have hs : (u16s m).toList.length = 36 := by simp [u16s, hm]
  apply Array.ext_getElem?
  intro i
  rw [putAt_get _ _ _ _ (by rw [hs, mat_size r c l hl]; omega), hs]
  match i with
  | 0 => rw [if_neg (by omega), mat_0, mat_0]
  | 1 => rw [if_neg (by omega), mat_1, mat_1]
  | j + 2 =>
    by_cases h : j < 36
    · rw [if_pos ⟨by omega, by omega⟩, show j + 2 - 2 = j by omega, Array.getElem?_toList, u16s_get, Nat.add_comm j 2, mat_2]
    · rw [if_neg (by omega), Nat.add_comm j 2, mat_2, mat_2, List.getElem?_eq_none (by omega), List.getElem?_eq_none (by omega)]
theorem heap3_0 (w : World) (A B C : Obj) : (((w.alloc A).alloc B).alloc C).heap[w.heap.size]? = some A := by
  rw [heap_lo _ _ _ (by simp; omega), heap_lo _ _ _ (by simp)]; exact heap_at _ _ _ rfl
theorem heap3_1 (w : World) (A B C : Obj) : (((w.alloc A).alloc B).alloc C).heap[w.heap.size + 1]? = some B := by
  rw [heap_lo _ _ _ (by simp)]; exact heap_at _ _ _ (by simp)
theorem heap3_2 (w : World) (A B C : Obj) : (((w.alloc A).alloc B).alloc C).heap[w.heap.size + 1 + 1]? = some C := heap_at _ _ _ (by simp)
theorem heap3_size (w : World) (A B C : Obj) : (((w.alloc A).alloc B).alloc C).heap.size = w.heap.size + 1 + 1 + 1 := by simp
theorem heap3_later {w w2 : World} {A B C : Obj} (h : Below (((w.alloc A).alloc B).alloc C).heap.size (((w.alloc A).alloc B).alloc C) w2) :
    w2.heap[w.heap.size]? = some A ∧ w2.heap[w.heap.size + 1]? = some B ∧ w2.heap[w.heap.size + 1 + 1]? = some C ∧ Below w.heap.size w w2 := by
  have hs := heap3_size w A B C
  refine ⟨?_, ?_, ?_, (below_alloc (below_alloc (below_alloc (Below.refl _ _) _) _) _).trans (h.mono (by omega))⟩
  · rw [h.block _ (by omega)]; exact heap3_0 ..
  · rw [h.block _ (by omega)]; exact heap3_1 ..
  · rw [h.block _ (by omega)]; exact heap3_2 ..
set_option maxHeartbeats 400000 in
set_option maxRecDepth 100000 in
theorem toM (r c : Int) (l : List Int) (hl : l.length = 36) (w : World) :
    Calls Tryd.prog 7 #[.agg (mat r c l)] w fun e w' => e = .returned (.agg (mat r c l)) ∧ Below w.heap.size w w' := by
  have HL := Aside0.mk hl
  have HE := Aside0.mk (mat_cells r c l hl)
  have HP := Aside0.mk (mat_put r c (List.replicate 36 0) l rfl hl)
  have HS := Aside0.mk (mat_size r c l hl)
  have HS0 := Aside0.mk (show 2 + 36 ≤ (mat r c l).size by rw [mat_size r c l hl]; omega)
  have HU := Aside0.mk ((u16s_size l).trans hl)
  have HS2 := Aside0.mk (show 2 + (u16s l).size ≤ (mat r c (List.replicate 36 0)).size by rw [u16s_size, hl, mat_size _ _ _ rfl]; omega)
  clear hl
  go_enter Tryd.func7, Tryd.ntmps7
  have e0 := mat_0 r c l
  have e1 := mat_1 r c l
  go_wp2_with (first
    | (refine wpList_load_sub rfl 25 _ rfl w.heap.size 2 rfl 27 _ (0, 0) _ 36 (heap3_0 _ _ _ _) Tryd.underlying25 rfl size25 HS0.out _ HE.out ?_)
    | (go_at_call 16; refine (toA66 l HL.out _).mono ?_; rintro e w2 ⟨rfl, hb2⟩; obtain ⟨_, h1, h2, hB⟩ := heap3_later hb2; have H1 := Aside0.mk (show w2.heap[w.heap.size + 1]? = some (.cells (mat 0 0 (List.replicate 36 0)) 33) from h1); have H2 := Aside0.mk (show w2.heap[w.heap.size + 1 + 1]? = some (.cells (mat r c (List.replicate 36 0)) 33) from h2); have HB := Aside0.mk hB; clear hb2 h1 h2 hB)
    | (refine wpList_store_sub rfl 31 _ _ rfl (w.heap.size + 1 + 1) 2 _ rfl rfl 33 _ H2.out (size31.trans (congrArg some HU.out.symm)) HS2.out (u16s_all _) _ HP.out ?_)
    | (refine wpList_load_row rfl 33 _ rfl (w.heap.size + 1 + 1) rfl 33 _ (0, 0) _ (heap_setRow_same H2.out) Tryd.underlying33 rfl (size33.trans (congrArg some HS.out.symm)) ?_)
    | (refine wpList_store_row rfl 33 _ _ rfl (w.heap.size + 1) _ rfl rfl 33 _ ((setRow_other _ _ _ _ (by omega)).trans H1.out) (size33.trans (congrArg some HS.out.symm)) (Eq.trans rfl HS.out.symm) (mat_all _ _ _) ?_))
  refine bodyPost_ret (v := .agg (mat r c l)) (results_cell_row rfl _ _ (w.heap.size + 1) 33 _ (0, 0) _ rfl (heap_setRow_same ((setRow_other _ _ _ _ (by omega)).trans H1.out)) Tryd.underlying33 rfl (size33.trans (congrArg some HS.out.symm))) rfl ⟨rfl, ?_⟩
  exact below_setRow (below_setRow HB.out (by omega) _) (by omega) _
end Go.Proofs.YtdgglnjegkmamaaDoor.Mx
