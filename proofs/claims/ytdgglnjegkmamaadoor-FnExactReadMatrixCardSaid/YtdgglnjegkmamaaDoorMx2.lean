/- The functions that turn matrices of other types into matrices: they keep all cells. No condition but the lengths. -/
import Derived.Test.YtdgglnjegkmamaaDoorMx1
set_option linter.unusedVariables false
set_option linter.unusedSimpArgs false
namespace Go.Proofs.YtdgglnjegkmamaaDoor.Mx
open Go.RowKit Go.Proofs.YtdgglnjegkmamaaDoor.Arr Go.Proofs.YtdgglnjegkmamaaDoorW.PrintWords Go.Proofs.YtdgglnjegkmamaaDoorW.PrintLast

theorem putAt_u16s (M vs : List Int) (o : Nat) (h : o + vs.length ≤ M.length) : putAt (u16s M) o (u16s vs).toList = u16s (M.take o ++ vs ++ M.drop (o + vs.length)) := by
  apply Array.ext_getElem?
  intro i
  have hl : (u16s vs).toList.length = vs.length := by simp [u16s]
  rw [putAt_get _ _ _ _ (by rw [hl, u16s_size]; exact h), hl, u16s_get, u16s_get]
  have e : (u16s vs).toList[i - o]? = (vs[i - o]?).map (Value.int .u16) := by rw [Array.getElem?_toList, u16s_get]
  rw [e]
  by_cases h1 : i < o
  · rw [if_neg (by omega), List.getElem?_append_left (by simp; omega), List.getElem?_append_left (by simp; omega), List.getElem?_take_of_lt h1]
  · by_cases h2 : i < o + vs.length
    · rw [if_pos ⟨by omega, h2⟩, List.getElem?_append_left (by simp; omega), List.getElem?_append_right (by simp; omega)]
      congr 2
      simp
      omega
    · rw [if_neg (by omega), List.getElem?_append_right (by simp; omega), List.getElem?_drop]
      congr 2
      simp
      omega
def row (l : List Int) (k : Nat) : List Int := (l.drop (6 * k)).take 6
theorem row_len (l : List Int) (hl : l.length = 36) (k : Nat) (hk : k < 6) : (row l k).length = 6 := by simp [row]; omega
theorem extract_u16s (l : List Int) (o n : Nat) : (u16s l).extract o (o + n) = u16s ((l.drop o).take n) := by
  apply Array.ext_getElem?
  intro i
  rw [u16s_get, Array.getElem?_extract, u16s_get, List.getElem?_take, List.getElem?_drop, u16s_size]
  by_cases h : i < n
  · rw [if_pos h]
    by_cases h2 : o + i < l.length
    · rw [if_pos (by omega)]
    · rw [if_neg (by omega), List.getElem?_eq_none (by omega)]
      rfl
  · rw [if_neg (by omega), if_neg h]
    rfl
def mix36 (l : List Int) (k : Nat) : List Int := l.take (6 * k) ++ List.replicate (36 - 6 * k) 0
theorem mix36_len (l : List Int) (hl : l.length = 36) (k : Nat) (hk : k ≤ 6) : (mix36 l k).length = 36 := by simp [mix36]; omega
theorem mix36_full (l : List Int) (hl : l.length = 36) : mix36 l 6 = l := by simp [mix36, List.take_of_length_le (by omega : l.length ≤ 36)]
theorem mix36_put (l : List Int) (hl : l.length = 36) (k : Nat) (hk : k < 6) : putAt (u16s (mix36 l k)) (6 * k) (u16s (row l k)).toList = u16s (mix36 l (k + 1)) := by
  have hr := row_len l hl k hk
  rw [putAt_u16s _ _ _ (by rw [hr, mix36_len l hl k (by omega)]; omega), hr]
  congr 1
  have h1 : (mix36 l k).take (6 * k) = l.take (6 * k) := by
    rw [mix36, List.take_append_of_le_length (by simp; omega), List.take_take, Nat.min_self]
  have h2 : (mix36 l k).drop (6 * k + 6) = List.replicate (36 - 6 * (k + 1)) 0 := by
    rw [mix36, List.drop_append]
    rw [List.drop_of_length_le (by simp; omega), List.drop_replicate]
    simp
    omega
  rw [h1, h2, mix36, row]
  congr 1
  rw [show 6 * (k + 1) = 6 * k + 6 by omega, List.take_add]
theorem mix36_put' (l : List Int) (hl : l.length = 36) (k : Nat) (hk : k < 6) : putAt (u16s (mix36 l k)) (k * 6) (u16s (row l k)).toList = u16s (mix36 l (k + 1)) := by
  rw [Nat.mul_comm]
  exact mix36_put l hl k hk
theorem extract_row (l : List Int) (k : Nat) : (u16s l).extract (k * 6) (k * 6 + 6) = u16s (row l k) := by
  rw [Nat.mul_comm]
  exact extract_u16s l (6 * k) 6
theorem size24 : (Tryd.prog.info? 24).map (·.size) = some 6 := by kernel_rfl
theorem size25 : (Tryd.prog.info? 25).map (·.size) = some 36 := by kernel_rfl
theorem size31 : (Tryd.prog.info? 31).map (·.size) = some 36 := by kernel_rfl
theorem size27 : (Tryd.prog.info? 27).map (·.size) = some 38 := by kernel_rfl
theorem size33 : (Tryd.prog.info? 33).map (·.size) = some 38 := by kernel_rfl
structure St36 (l : List Int) (w w' : World) (k : Nat) : Prop where
  hn : w.heap.size + 1 + 1 + 1 ≤ w'.heap.size
  h0 : w'.heap[w.heap.size]? = some (.cells (u16s l) 25)
  h2 : w'.heap[w.heap.size + 1 + 1]? = some (.cells (u16s (mix36 l k)) 31)
  h1 : w'.heap[w.heap.size + 1]? = some (.cells (u16s (List.replicate 36 0)) 31)
  hb : Below w.heap.size w w'
theorem St36.later {l w w' w2 k} (h : St36 l w w' k) (h2 : Below w'.heap.size w' w2) : St36 l w w2 k :=
  ⟨Nat.le_trans h.hn h2.size, by rw [h2.block _ (by have := h.hn; omega)]; exact h.h0, by rw [h2.block _ (by have := h.hn; omega)]; exact h.h2, by rw [h2.block _ (by have := h.hn; omega)]; exact h.h1, h.hb.trans (h2.mono (by have := h.hn; omega))⟩
theorem St36.next {l w w' k} (h : St36 l w w' k) (hl : l.length = 36) (hk : k < 6) : St36 l w (w'.setRow (w.heap.size + 1 + 1) (u16s (mix36 l (k + 1)))) (k + 1) where
  hn := by rw [size_setRow]; exact h.hn
  h0 := by rw [setRow_other _ _ _ _ (by omega)]; exact h.h0
  h1 := by rw [setRow_other _ _ _ _ (by omega)]; exact h.h1
  h2 := heap_setRow_same h.h2
  hb := below_setRow h.hb (by omega) _
set_option maxHeartbeats 400000 in
set_option maxRecDepth 100000 in
theorem toA66 (l : List Int) (hl : l.length = 36) (w : World) :
    Calls Tryd.prog 16 #[.agg (u16s l)] w fun e w' => e = .returned (.agg (u16s l)) ∧ Below w.heap.size w w' := by
  have HL := Aside0.mk hl
  clear hl
  go_enter Tryd.func16, Tryd.ntmps16
  go_wp2
  go_loopw [4] (fun i w' => ∃ k : Nat, k ≤ 6 ∧ i = .int .i64 k ∧ Aside0 (St36 l w w' k)) (fun i w' => 6 - (intOf i).toNat)
  case atStart => exact ⟨0, by omega, rfl, ⟨⟨by simp, by rw [heap_lo _ _ _ (by simp; omega), heap_lo _ _ _ (by simp)]; exact heap_at _ _ _ rfl, heap_at _ _ _ (by simp), by rw [heap_lo _ _ _ (by simp)]; exact heap_at _ _ _ (by simp), below_alloc (below_alloc (below_alloc (Below.refl _ _) _) _) _⟩⟩⟩
  case round =>
    obtain ⟨k, hk, rfl, HS⟩ := hrel
    by_cases hlt : k < 6
    · have HE := Aside0.mk (extract_row l k)
      have HP := Aside0.mk (mix36_put' l HL.out k hlt)
      have HB := Aside0.mk (row_len l HL.out k hlt)
      have HZ := Aside0.mk ((u16s_size (row l k)).trans HB.out)
      have HN0 := Aside0.mk (show k * 6 + 6 ≤ (u16s l).size by rw [u16s_size, HL.out]; omega)
      have HN2 := Aside0.mk (show k * 6 + (u16s (row l k)).size ≤ (u16s (mix36 l k)).size by rw [u16s_size, u16s_size, HB.out, mix36_len l HL.out k hk]; omega)
      go_wp2_with (first
        | (refine wpList_load_sub rfl 24 _ rfl w.heap.size (k * 6) rfl 25 _ (0, 0) _ 6 HS.out.h0 Tryd.underlying24 rfl size24 HN0.out _ HE.out ?_)
        | (go_at_call 32; refine (toA6 (row l k) HB.out _).mono ?_; rintro e w2 ⟨rfl, hb2⟩; have HS2 := Aside0.mk (HS.out.later hb2); clear hb2 HS)
        | (refine wpList_store_sub rfl 30 _ _ rfl (w.heap.size + 1 + 1) (k * 6) _ rfl rfl 31 _ HS2.out.h2 (size30.trans (congrArg some HZ.out.symm)) HN2.out (u16s_all _) _ HP.out ?_))
      exact ⟨⟨k + 1, by omega, by go_num, ⟨HS2.out.next HL.out hlt⟩⟩, by simp [intOf]; omega⟩
    · obtain rfl : k = 6 := by omega
      have hs : (u16s (mix36 l 6)).size = 36 := by rw [u16s_size, mix36_len l HL.out 6 (by omega)]
      have h2 := HS.out.h2
      rw [mix36_full l HL.out] at h2 hs
      have H1 := Aside0.mk HS.out.h1
      have H2 := Aside0.mk h2
      have HZ := Aside0.mk hs
      clear h2 hs
      go_wp2_with (first
        | (refine wpList_load_row rfl 31 _ rfl (w.heap.size + 1 + 1) rfl 31 _ (0, 0) _ H2.out Tryd.underlying31 rfl (size31.trans (congrArg some HZ.out.symm)) ?_)
        | (refine wpList_store_row rfl 31 _ _ rfl (w.heap.size + 1) _ rfl rfl 31 _ H1.out (size31.trans (congrArg some HZ.out.symm)) (Eq.trans rfl HZ.out.symm) (u16s_all _) ?_))
      refine bodyPost_ret (v := .agg (u16s l)) (results_cell_row rfl _ _ (w.heap.size + 1) 31 _ (0, 0) _ rfl (heap_setRow_same H1.out) Tryd.underlying31 rfl (size31.trans (congrArg some HZ.out.symm))) rfl ⟨rfl, ?_⟩
      exact below_setRow HS.out.hb (by omega) _
end Go.Proofs.YtdgglnjegkmamaaDoor.Mx
