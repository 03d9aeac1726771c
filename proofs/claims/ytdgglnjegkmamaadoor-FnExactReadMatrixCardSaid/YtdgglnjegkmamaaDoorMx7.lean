/- Equal matrices are told equal. No condition but the lengths. -/
import Derived.Test.YtdgglnjegkmamaaDoorMx6
set_option linter.unusedVariables false
set_option linter.unusedSimpArgs false
namespace Go.Proofs.YtdgglnjegkmamaaDoor.Mx
open Go.RowKit Go.Proofs.YtdgglnjegkmamaaDoor.Arr Go.Proofs.YtdgglnjegkmamaaDoorW.PrintWords Go.Proofs.YtdgglnjegkmamaaDoorW.PrintLast

/-- Two boxes that are kept. -/
structure Bx2 (w w' : World) (o1 o2 : Obj) : Prop where
  hb : Below w.heap.size w w'
  h1 : w'.heap[w.heap.size]? = some o1
  h2 : w'.heap[w.heap.size + 1]? = some o2
theorem Bx2.start (w : World) (o1 o2 : Obj) : Bx2 w ((w.alloc o1).alloc o2) o1 o2 :=
  ⟨below_alloc (below_alloc (Below.refl _ _) _) _, by rw [heap_lo _ _ _ (by simp)]; exact heap_at _ _ _ rfl, heap_at _ _ _ (by simp)⟩
theorem Bx2.size {w w' o1 o2} (h : Bx2 w w' o1 o2) : w.heap.size + 1 < w'.heap.size := (Array.getElem?_eq_some_iff.1 h.h2).1
theorem Bx2.step {w w' w2 o1 o2} (h : Bx2 w w' o1 o2) (k : Below w'.heap.size w' w2) : Bx2 w w2 o1 o2 :=
  ⟨h.hb.trans (k.mono (by have := h.size; omega)), by rw [k.block _ (by have := h.size; omega)]; exact h.h1, by rw [k.block _ h.size]; exact h.h2⟩
theorem Bx2.drewN {w w' o1 o2} (h : Bx2 w w' o1 o2) (n : Nat) : Bx2 w (w'.drewN n) o1 o2 := ⟨pw_below_drewN h.hb n, h.h1, h.h2⟩
theorem u16_cell {w : World} {b o : Nat} {t : TypeId} {fr : Nat × Nat} {l : List Int} (h : w.heap[b]? = some (.cells (u16s l) t fr)) (k : Nat) (hk : k < l.length) : w.cell? ⟨b, k, none⟩ = some (.int .u16 (l.getD k 0)) := by
  rw [cell_of_row _ _ _ _ _ _ h, u16s_get, List.getD_eq_getElem?_getD, List.getElem?_eq_getElem hk]
  rfl
set_option maxHeartbeats 800000 in
set_option maxRecDepth 100000 in
theorem eqA6 (l : List Int) (hl : l.length = 6) (w : World) :
    Calls Tryd.prog 41 #[.agg (u16s l), .agg (u16s l)] w fun e w' => e = .returned (.bool true) ∧ Below w.heap.size w w' := by
  have HL := Aside0.mk hl
  have HX := Aside0.mk (Bx2.start w (.cells (u16s l) 30) (.cells (u16s l) 30))
  clear hl
  go_enter Tryd.func41, Tryd.ntmps41
  go_wp2
  go_loopw [5] (fun i w' => ∃ k : Nat, k ≤ 6 ∧ i = .int .i64 k ∧ Aside0 (Bx2 w w' (.cells (u16s l) 30) (.cells (u16s l) 30))) (fun i w' => 6 - (intOf i).toNat)
  case atStart => exact ⟨0, by omega, rfl, HX⟩
  case round =>
    clear HX
    obtain ⟨k, hk, rfl, HX⟩ := hrel
    by_cases hlt : k < 6
    · have c1 := u16_cell (o := 0) HX.out.h1 k (by rw [HL.out]; exact hlt)
      have c2 := u16_cell (o := 0) HX.out.h2 k (by rw [HL.out]; exact hlt)
      generalize l.getD k 0 = x at c1 c2
      go_wp2_with fail
      go_quiet (fail)
      go_wp2_with fail
      exact ⟨⟨k + 1, by omega, by go_num, (by first | exact HX | exact ⟨HX.out.drewN _⟩)⟩, by simp [intOf]; omega⟩
    · obtain rfl : k = 6 := by omega
      go_wp2_with fail
      go_ret
      exact ⟨rfl, (by first | exact HX.out.hb | exact (HX.out.drewN _).hb)⟩
set_option maxHeartbeats 800000 in
set_option maxRecDepth 100000 in
theorem eqA66 (l : List Int) (hl : l.length = 36) (w : World) :
    Calls Tryd.prog 25 #[.agg (u16s l), .agg (u16s l)] w fun e w' => e = .returned (.bool true) ∧ Below w.heap.size w w' := by
  have HL := Aside0.mk hl
  have HX := Aside0.mk (Bx2.start w (.cells (u16s l) 31) (.cells (u16s l) 31))
  clear hl
  go_enter Tryd.func25, Tryd.ntmps25
  go_wp2
  go_loopw [5] (fun i w' => ∃ k : Nat, k ≤ 6 ∧ i = .int .i64 k ∧ Aside0 (Bx2 w w' (.cells (u16s l) 31) (.cells (u16s l) 31))) (fun i w' => 6 - (intOf i).toNat)
  case atStart => exact ⟨0, by omega, rfl, HX⟩
  case round =>
    clear HX
    obtain ⟨k, hk, rfl, HX⟩ := hrel
    by_cases hlt : k < 6
    · have HE := Aside0.mk (extract_row l k)
      have HB := Aside0.mk (row_len l HL.out k hlt)
      have HN0 := Aside0.mk (show k * 6 + 6 ≤ (u16s l).size by rw [u16s_size, HL.out]; omega)
      go_wp2_with fail
      refine wp_region_class (fun w' => Bx2 w w' (.cells (u16s l) 31) (.cells (u16s l) 31)) (by kernel_rfl) (by kernel_rfl) (HX.out.drewN 1) ?_
      repeat (first
        | (refine wpQuiet_load_sub rfl 30 _ rfl w.heap.size (k * 6) rfl 31 _ (0, 0) _ 6 (fun _ h => h.h1) Tryd.underlying30 rfl size30 HN0.out _ HE.out ?_)
        | (refine wpQuiet_load_sub rfl 30 _ rfl (w.heap.size + 1) (k * 6) rfl 31 _ (0, 0) _ 6 (fun _ h => h.h2) Tryd.underlying30 rfl size30 HN0.out _ HE.out ?_)
        | (refine wpQuiet_step (fun K hK => ?_); go_simp; refine ⟨_, fun _ _ => rfl, hK _ ?_⟩; clear hK K)
        | (refine wpQuiet_step (fun K hK => ?_); go_simp; refine ⟨.bool true, fun w1 h1 => (eqA6 (row l k) HB.out w1).mono (fun e w2 h => ⟨h.1, h1.step h.2⟩), hK _ ?_⟩; clear hK K))
      refine wpQuiet_nil ?_
      intro w2 hw2
      replace HX := Aside0.mk hw2
      clear hw2
      go_wp2_with fail
      exact ⟨⟨k + 1, by omega, by go_num, (by first | exact HX | exact ⟨HX.out.drewN _⟩)⟩, by simp [intOf]; omega⟩
    · obtain rfl : k = 6 := by omega
      go_wp2_with fail
      go_ret
      exact ⟨rfl, (by first | exact HX.out.hb | exact (HX.out.drewN _).hb)⟩
set_option maxHeartbeats 800000 in
set_option maxRecDepth 100000 in
theorem eqM (r c : Int) (l : List Int) (hl : l.length = 36) (w : World) :
    Calls Tryd.prog 11 #[.agg (mat r c l), .agg (mat r c l)] w fun e w' => e = .returned (.bool true) ∧ Below w.heap.size w w' := by
  have HL := Aside0.mk hl
  have HX := Aside0.mk (Bx2.start w (.cells (mat r c l) 33) (.cells (mat r c l) 33))
  have HE := Aside0.mk (mat_cells r c l hl)
  have HS0 := Aside0.mk (show 2 + 36 ≤ (mat r c l).size by rw [mat_size r c l hl]; omega)
  have e0 := mat_0 r c l
  have e1 := mat_1 r c l
  clear hl
  go_enter Tryd.func11, Tryd.ntmps11
  go_wp2_with (first
    | (refine wpList_load_sub rfl 31 _ rfl w.heap.size 2 rfl 33 _ (0, 0) _ 36 HX.out.h1 Tryd.underlying31 rfl size31 HS0.out _ HE.out ?_)
    | (refine wpList_load_sub rfl 31 _ rfl (w.heap.size + 1) 2 rfl 33 _ (0, 0) _ 36 HX.out.h2 Tryd.underlying31 rfl size31 HS0.out _ HE.out ?_)
    | (go_at_call 25; refine (eqA66 l HL.out _).mono ?_; rintro e w2 ⟨rfl, hb2⟩; replace HX := Aside0.mk (HX.out.step hb2); clear hb2))
  go_ret
  exact ⟨rfl, HX.out.hb⟩
end Go.Proofs.YtdgglnjegkmamaaDoor.Mx
