/- The functions that turn matrices: what they hand back. No condition but the lengths. -/
import Derived.Test.YtdgglnjegkmamaaDoorQFnExactMatrixTextx1
import Derived.Test.YtdgglnjegkmamaaDoorArr
import Derived.Test.YtdgglnjegkmamaaDoorWKept
set_option linter.unusedVariables false
set_option linter.unusedSimpArgs false
namespace Go.Proofs.YtdgglnjegkmamaaDoor.Mx
open Go.RowKit Go.Proofs.YtdgglnjegkmamaaDoor.Arr Go.Proofs.YtdgglnjegkmamaaDoorW.PrintWords Go.Proofs.YtdgglnjegkmamaaDoorW.PrintLast

def u16s (l : List Int) : Array Value := (l.map (Value.int .u16)).toArray
theorem u16s_size (l : List Int) : (u16s l).size = l.length := by simp [u16s]
theorem u16s_get (l : List Int) (j : Nat) : (u16s l)[j]? = (l[j]?).map (Value.int .u16) := by simp [u16s]
theorem u16s_all (l : List Int) : (u16s l).all (·.oneCell') = true := by
  rw [Array.all_eq_true_iff_forall_mem]
  intro x hx
  simp only [u16s, List.mem_toArray, List.mem_map] at hx
  obtain ⟨y, _, rfl⟩ := hx
  rfl
theorem u16s_set (l : List Int) (j : Nat) (x : Int) : (u16s l).setIfInBounds j (.int .u16 x) = u16s (l.set j x) := by
  apply Array.ext_getElem?
  intro i
  rw [Array.getElem?_setIfInBounds, u16s_get, u16s_get, List.getElem?_set]
  by_cases h : j = i
  · subst h
    simp only [if_true, u16s_size]
    split <;> simp
  · simp [h]

theorem heap_at (w : World) (o : Obj) (n : Nat) (h : n = w.heap.size) : (w.alloc o).heap[n]? = some o := by subst h; exact heap_alloc_new w o
theorem heap_lo (w : World) (o : Obj) (i : Nat) (h : i < w.heap.size) : (w.alloc o).heap[i]? = w.heap[i]? := Below.heap_alloc w o i h
theorem size30 : (Tryd.prog.info? 30).map (·.size) = some 6 := by kernel_rfl
def mix6 (l : List Int) (k : Nat) : List Int := l.take k ++ List.replicate (6 - k) 0
theorem mix6_len (l : List Int) (hl : l.length = 6) (k : Nat) (hk : k ≤ 6) : (mix6 l k).length = 6 := by simp [mix6]; omega
theorem mix6_set (l : List Int) (hl : l.length = 6) (k : Nat) (hk : k < 6) : (mix6 l k).set k (l.getD k 0) = mix6 l (k + 1) := by
  apply List.ext_getElem?
  intro i
  simp only [mix6, List.getElem?_set, List.getElem?_append, List.getElem?_take, List.getElem?_replicate, List.length_append, List.length_take, List.length_replicate, List.getD_eq_getElem?_getD]
  by_cases h : k = i
  · subst h
    simp [show k < 6 by omega, hl, show min k 6 + (6 - k) = 6 by omega, show min (k + 1) 6 = k + 1 by omega]
  · by_cases h2 : i < k
    · simp [h, h2, hl, show i < min k 6 by omega, show i < min (k + 1) 6 by omega, show i < k + 1 by omega]
    · simp [h, hl, show ¬ i < min k 6 by omega, show ¬ i < min (k + 1) 6 by omega, show min k 6 = k by omega, show min (k + 1) 6 = k + 1 by omega]
      by_cases h3 : i < 6
      · simp [h2, show ¬ i < k + 1 by omega, show i - k < 6 - k by omega, show i - (k + 1) < 5 - k by omega]
      · simp [h2, show ¬ i < k + 1 by omega, show ¬ i - k < 6 - k by omega, show ¬ i - (k + 1) < 5 - k by omega]
theorem mix6_full (l : List Int) (hl : l.length = 6) : mix6 l 6 = l := by simp [mix6, List.take_of_length_le (by omega : l.length ≤ 6)]
structure St6 (l : List Int) (w w' : World) (k : Nat) : Prop where
  hn : w'.heap.size = w.heap.size + 1 + 1 + 1
  h0 : w'.heap[w.heap.size]? = some (.cells (u16s l) 24)
  h2 : w'.heap[w.heap.size + 1 + 1]? = some (.cells (u16s (mix6 l k)) 30)
  h1 : w'.heap[w.heap.size + 1]? = some (.cells (u16s (List.replicate 6 0)) 30)
  hb : Below w.heap.size w w'
theorem St6.cell {l w w' k} (h : St6 l w w' k) (hl : l.length = 6) (hk : k < 6) : w'.cell? ⟨w.heap.size, k, none⟩ = some (.int .u16 (l.getD k 0)) := by
  rw [cell_of_row _ _ _ _ _ _ h.h0, u16s_get, List.getD_eq_getElem?_getD, List.getElem?_eq_getElem (by omega)]
  rfl
theorem St6.out {l w w' k} (h : St6 l w w' k) (hl : l.length = 6) (hk : k < 6) : ∃ x, w'.cell? ⟨w.heap.size + 1 + 1, k, none⟩ = some (.int .u16 x) := by
  rw [cell_of_row _ _ _ _ _ _ h.h2, u16s_get, List.getElem?_eq_getElem (by rw [mix6_len l hl k (by omega)]; omega)]
  exact ⟨_, rfl⟩
theorem St6.next {l w w' k} (h : St6 l w w' k) (hl : l.length = 6) (hk : k < 6) : St6 l w (w'.setCell ⟨w.heap.size + 1 + 1, k, none⟩ (.int .u16 (l.getD k 0))) (k + 1) where
  hn := by rw [World.size_setCell]; exact h.hn
  h0 := by rw [heap_setCell_other _ _ _ _ (by show _ ≠ _ + 1 + 1; omega)]; exact h.h0
  h1 := by rw [heap_setCell_other _ _ _ _ (by simp)]; exact h.h1
  h2 := by rw [heap_setCell_same _ _ _ _ _ _ h.h2, u16s_set, mix6_set l hl k hk]
  hb := h.hb.setCell (by show _ ≤ _ + 1 + 1; omega) _
theorem St6.drewN {l w w' k} (h : St6 l w w' k) (n : Nat) : St6 l w (w'.drewN n) k := ⟨h.hn, h.h0, h.h2, h.h1, pw_below_drewN h.hb n⟩
set_option maxHeartbeats 400000 in
set_option maxRecDepth 100000 in
theorem toA6 (l : List Int) (hl : l.length = 6) (w : World) :
    Calls Tryd.prog 32 #[.agg (u16s l)] w fun e w' => e = .returned (.agg (u16s l)) ∧ Below w.heap.size w w' := by
  have HL := Aside0.mk hl
  clear hl
  go_enter Tryd.func32, Tryd.ntmps32
  go_wp2
  go_loopw [4] (fun i w' => ∃ k : Nat, k ≤ 6 ∧ i = .int .i64 k ∧ Aside0 (St6 l w w' k)) (fun i w' => 6 - (intOf i).toNat)
  case atStart => exact ⟨0, by omega, rfl, ⟨⟨by simp, by rw [heap_lo _ _ _ (by simp; omega), heap_lo _ _ _ (by simp)]; exact heap_at _ _ _ rfl, heap_at _ _ _ (by simp), by rw [heap_lo _ _ _ (by simp)]; exact heap_at _ _ _ (by simp), below_alloc (below_alloc (below_alloc (Below.refl _ _) _) _) _⟩⟩⟩
  case round =>
    obtain ⟨k, hk, rfl, HS⟩ := hrel
    by_cases hlt : k < 6
    · have hc := HS.out.cell HL.out hlt
      obtain ⟨x, hx⟩ := HS.out.out HL.out hlt
      have hf : wr.frozen? ⟨w.heap.size + 1 + 1, k, none⟩ = false := frozen_of_row _ _ _ _ _ HS.out.h2
      generalize hy : l.getD k 0 = y at hc
      have HY := Aside0.mk hy
      clear hy
      go_wp2
      exact ⟨⟨k + 1, by omega, by go_num, ⟨by rw [← HY.out]; exact HS.out.next HL.out hlt⟩⟩, by simp [intOf]; omega⟩
    · obtain rfl : k = 6 := by omega
      have hs : (u16s (mix6 l 6)).size = 6 := by rw [u16s_size, mix6_len l HL.out 6 (by omega)]
      have hs0 : (u16s (List.replicate 6 0)).size = 6 := rfl
      have h2 := HS.out.h2
      rw [mix6_full l HL.out] at h2 hs
      have H1 := Aside0.mk HS.out.h1
      have H2 := Aside0.mk h2
      have HZ := Aside0.mk hs
      clear h2 hs hs0
      go_wp2_with (first
        | (refine wpList_load_row rfl 30 _ rfl (w.heap.size + 1 + 1) rfl 30 _ (0, 0) _ H2.out Tryd.underlying30 rfl (size30.trans (congrArg some HZ.out.symm)) ?_)
        | (refine wpList_store_row rfl 30 _ _ rfl (w.heap.size + 1) _ rfl rfl 30 _ H1.out (size30.trans (congrArg some HZ.out.symm)) (Eq.trans rfl HZ.out.symm) (u16s_all _) ?_))
      refine bodyPost_ret (v := .agg (u16s l)) (results_cell_row rfl _ _ (w.heap.size + 1) 30 _ (0, 0) _ rfl (heap_setRow_same H1.out) Tryd.underlying30 rfl (size30.trans (congrArg some HZ.out.symm))) rfl ⟨rfl, ?_⟩
      exact below_setRow HS.out.hb (by omega) _
end Go.Proofs.YtdgglnjegkmamaaDoor.Mx
