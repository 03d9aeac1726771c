/- TurnMatrix, of both programs. No condition but the lengths and the kinds' bounds. -/
import Derived.Test.YtjffoemohcebjaaMx8
set_option linter.unusedVariables false
set_option linter.unusedSimpArgs false
namespace Go.Proofs.Ytjffoemohcebjaa.Mx
open Go.RowKit Go.Proofs.Ytjffoemohcebjaa.Arr Go.Proofs.YtjffoemohcebjaaW.PrintWords Go.Proofs.YtjffoemohcebjaaW.PrintLast

def z36 : List Int := List.replicate 36 0
theorem z36_len : z36.length = 36 := rfl
theorem built2 (x y : Int) (w : World) : (Instr.build 33 #[(0, .int .i8 x), (1, .int .i8 y)]).run Try.prog w = .ok (.agg (mat x y z36)) w := run_build w 33 _ _ (by kernel_rfl)
theorem built0 (w : World) : (Instr.build 33 #[]).run Try.prog w = .ok (.agg (mat 0 0 z36)) w := run_build w 33 _ _ (by kernel_rfl)
theorem zero33 (w : World) : (zeroValue 33).run Try.prog w = .ok (.agg (mat 0 0 z36)) w := by rw [Try.zeroValue33]; rfl
/-- A matrix's cells by row and column. -/
def matP (g : Nat → Nat → Int) : List Int := (List.range 36).map fun p => g (p / 6) (p % 6)
theorem matP_len (g : Nat → Nat → Int) : (matP g).length = 36 := by simp [matP]
theorem matP_get (g : Nat → Nat → Int) {i k : Nat} (hi : i < 6) (hk : k < 6) : (matP g)[i * 6 + k]? = some (g i k) := by
  simp only [matP, List.getElem?_map, List.getElem?_range (show i * 6 + k < 36 by omega), Option.map_some]
  rw [show (i * 6 + k) / 6 = i by omega, show (i * 6 + k) % 6 = k by omega]
theorem matP_getD (g : Nat → Nat → Int) {i k : Nat} (hi : i < 6) (hk : k < 6) : (matP g).getD (i * 6 + k) 0 = g i k := by
  rw [List.getD_eq_getElem?_getD, matP_get g hi hk]
  rfl
theorem matP_congr {g h : Nat → Nat → Int} (e : ∀ i k, i < 6 → k < 6 → g i k = h i k) : matP g = matP h := by
  unfold matP
  apply List.map_congr_left
  intro p hp
  have := List.mem_range.1 hp
  exact e _ _ (by omega) (by omega)
theorem matP_set (g : Nat → Nat → Int) (i k : Nat) (v : Int) (hi : i < 6) (hk : k < 6) : (matP g).set (i * 6 + k) v = matP (fun a b => if a = i ∧ b = k then v else g a b) := by
  apply List.ext_getElem?
  intro j
  rw [List.getElem?_set]
  by_cases hj : j < 36
  · have hj2 : j = (j / 6) * 6 + j % 6 := by omega
    rw [hj2, matP_get _ (by omega) (by omega), matP_get _ (by omega) (by omega), matP_len]
    by_cases h : i * 6 + k = j / 6 * 6 + j % 6
    · have h1 : j / 6 = i := by omega
      have h2 : j % 6 = k := by omega
      rw [if_pos h, if_pos (by omega), if_pos ⟨h1, h2⟩]
    · rw [if_neg h, if_neg (by omega)]
  · rw [if_neg (by omega), List.getElem?_eq_none (by rw [matP_len]; omega), List.getElem?_eq_none (by rw [matP_len]; omega)]
theorem matP_of {l : List Int} (hl : l.length = 36) : matP (fun i k => l.getD (i * 6 + k) 0) = l := by
  apply List.ext_getElem?
  intro j
  by_cases hj : j < 36
  · rw [show j = (j / 6) * 6 + j % 6 by omega, matP_get _ (by omega) (by omega), List.getD_eq_getElem?_getD, List.getElem?_eq_getElem (by omega)]
    rfl
  · rw [List.getElem?_eq_none (by rw [matP_len]; omega), List.getElem?_eq_none (by omega)]
theorem z36_P : z36 = matP (fun _ _ => 0) := by decide
/-- The turned cells of the first i rows, and of the first k of row i. -/
def turnG (l : List Int) (i k : Nat) (a b : Nat) : Int := if b < i ∨ (b = i ∧ a < k) then l.getD (b * 6 + a) 0 else 0
def turnL (l : List Int) : List Int := matP (fun a b => l.getD (b * 6 + a) 0)
theorem turnG_start (l : List Int) : matP (turnG l 0 0) = z36 := by
  rw [z36_P]
  exact matP_congr (fun a b _ _ => by unfold turnG; rw [if_neg (by omega)])
theorem turnG_row (l : List Int) (i : Nat) : matP (turnG l i 6) = matP (turnG l (i + 1) 0) :=
  matP_congr (fun a b _ _ => by
    unfold turnG
    by_cases h : b < i ∨ (b = i ∧ a < 6)
    · rw [if_pos h, if_pos (by omega)]
    · rw [if_neg h, if_neg (by omega)])
theorem turnG_set (l : List Int) (i k : Nat) (hi : i < 6) (hk : k < 6) : (matP (turnG l i k)).set (k * 6 + i) (l.getD (i * 6 + k) 0) = matP (turnG l i (k + 1)) := by
  rw [matP_set _ _ _ _ hk hi]
  refine matP_congr (fun a b _ _ => ?_)
  unfold turnG
  by_cases h : a = k ∧ b = i
  · rw [if_pos h, if_pos (by omega), h.1, h.2]
  · rw [if_neg h]
    by_cases h2 : b < i ∨ (b = i ∧ a < k)
    · rw [if_pos h2, if_pos (by omega)]
    · rw [if_neg h2, if_neg (by omega)]
theorem turnG_all (l : List Int) : matP (turnG l 6 0) = turnL l :=
  matP_congr (fun a b _ _ => by unfold turnG; rw [if_pos (by omega)])
/-- The zero matrix, a matrix that is built, and the store of it, under names of their own. -/
theorem lit_store {Z M : Array Value} (hZ : Z.size = 38) (hM : M.size = 38) (hA : M.all (·.oneCell') = true) (v : World) (n : Nat) (hn : n = v.heap.size) : (storeCells ⟨n, 0, none⟩ M.toList).run Try.prog (v.alloc (.cells Z 33)) = .ok () (v.alloc (.cells M 33)) := by
  subst hn
  exact run_storeCells_new v 33 _ _ (size33.trans (congrArg some hM.symm)) (hZ.trans hM.symm) hA
theorem lit_names (x y : Int) : ∃ Z M : Array Value, Aside0 (Z = mat 0 0 z36) ∧ Aside0 (M = mat x y z36) ∧ (∀ w : World, (zeroValue 33).run Try.prog w = .ok (.agg Z) w) ∧ (Z = #[]) = False ∧ (Z.setIfInBounds 0 (.int .i8 x)).setIfInBounds 1 (.int .i8 y) = M ∧
    (∀ (v : World) (n : Nat), n = v.heap.size → (storeCells ⟨n, 0, none⟩ M.toList).run Try.prog (v.alloc (.cells Z 33)) = .ok () (v.alloc (.cells M 33))) ∧ (∀ (v : World) (n : Nat), n = v.heap.size → (storeCells ⟨n, 0, none⟩ M.toList).run Try.prog (v.alloc (.cells Z 33)).drew = .ok () (v.alloc (.cells M 33)).drew) ∧ M.size = 38 ∧ Z.size = 38 :=
  have hZ := mat_size 0 0 z36 rfl
  have hM := mat_size x y z36 rfl
  ⟨mat 0 0 z36, mat x y z36, ⟨rfl⟩, ⟨rfl⟩, zero33, by simp [mat], by rw [mat_set0, mat_set1], lit_store hZ hM (mat_all _ _ _), fun v n hn => lit_store hZ hM (mat_all _ _ _) v.drew n hn, hM, hZ⟩
/-- A box that came in, the result, and what is made. -/
structure St3 (N : Nat) (w w' : World) (b z n : Nat) (o oz on : Obj) : Prop where
  hb : Below N w w'
  hg : w'.heap[b]? = some o
  hz : w'.heap[z]? = some oz
  ho : w'.heap[n]? = some on
theorem St3.drewN {N w w' b z n o oz on} (h : St3 N w w' b z n o oz on) (m : Nat) : St3 N w (w'.drewN m) b z n o oz on := ⟨pw_below_drewN h.hb m, h.hg, h.hz, h.ho⟩
theorem St3.set {N : Nat} {w w' : World} {b z n : Nat} {o oz : Obj} {r c : Int} {m m' : List Int} (h : St3 N w w' b z n o oz (.cells (mat r c m) 33)) (h1 : b ≠ n) (h2 : z ≠ n) (h3 : N ≤ n) (i k : Nat) (x : Int) (e : m.set (i * 6 + k) x = m') : St3 N w (w'.setCell ⟨n, 2 + i * 6 + k, none⟩ (.int .u16 x)) b z n o oz (.cells (mat r c m') 33) where
  hb := h.hb.setCell h3 _
  hg := by rw [heap_setCell_other _ _ _ _ h1]; exact h.hg
  hz := by rw [heap_setCell_other _ _ _ _ h2]; exact h.hz
  ho := by rw [heap_setCell_same _ _ _ _ _ _ h.ho, Nat.add_assoc, mat_set2, e]
/-- Behind the making of a matrix. -/
theorem St3.made {N : Nat} {w w2 : World} {b z : Nat} {o oz : Obj} (hb : Below N w w2) (hN : N ≤ w2.heap.size) (hg : w2.heap[b]? = some o) (hz : w2.heap[z]? = some oz) (on : Obj) : St3 N w (w2.alloc on) b z w2.heap.size o oz on :=
  ⟨hb.alloc hN _, by rw [heap_lo _ _ _ (Array.getElem?_eq_some_iff.1 hg).1]; exact hg, by rw [heap_lo _ _ _ (Array.getElem?_eq_some_iff.1 hz).1]; exact hz, heap_at _ _ _ rfl⟩
set_option maxHeartbeats 800000 in
set_option maxRecDepth 100000 in
theorem l02Turn (b : Nat) (r c : Int) (l : List Int) (hl : l.length = 36) (w : World) (hg : w.heap[b]? = some (.cells (mat r c l) 33)) :
    Calls Try.prog 39 #[.pointer (some ⟨b, 0, none⟩)] w fun e w' => e = .returned (.agg (mat c r (turnL l))) ∧ Below w.heap.size w w' := by
  have HL := Aside0.mk hl
  have HG := Aside0.mk hg
  have g0 := mat_cell0 hg
  have g1 := mat_cell1 hg
  have hlt : b < w.heap.size := (Array.getElem?_eq_some_iff.1 hg).1
  obtain ⟨Z, M, HZ, HM, hz, hZ0, hbu, hst, hst', hsz, hsZ⟩ := lit_names c r
  have HSt := Aside0.mk (fun on : Obj => St3.made (N := w.heap.size) (w := w) (w2 := w.alloc (.cells (mat 0 0 z36) 33)) (b := b) (z := w.heap.size) (below_alloc (Below.refl _ _) _) (by simp) ((heap_lo _ _ _ hlt).trans hg) (heap_at _ _ _ rfl) on)
  rw [World.size_alloc] at HSt
  clear hl hg
  go_enter Try.func39, Try.ntmps39
  go_wp2_with fail
  go_region
  go_wp2_with fail
  have hZ := HZ.out
  have hM := HM.out
  clear HZ HM hz hZ0 hbu hst hst' hsz hsZ
  subst hZ
  subst hM
  go_loopw [4] (fun i w' => ∃ n : Nat, n ≤ 6 ∧ i = .int .i64 n ∧ Aside0 (St3 w.heap.size w w' b w.heap.size (w.heap.size + 1) (.cells (mat r c l) 33) (.cells (mat 0 0 z36) 33) (.cells (mat c r (matP (turnG l n 0))) 33))) (fun i w' => 6 - (intOf i).toNat)
  case atStart => exact ⟨0, by omega, rfl, ⟨by rw [turnG_start]; exact (HSt.out _).drewN 1⟩⟩
  case round =>
    obtain ⟨n, hn, rfl, HT⟩ := hrel
    by_cases hltn : n < 6
    · go_wp2_with fail
      go_loopw [5] (fun k w' => ∃ q : Nat, q ≤ 6 ∧ k = .int .i64 q ∧ Aside0 (St3 w.heap.size w w' b w.heap.size (w.heap.size + 1) (.cells (mat r c l) 33) (.cells (mat 0 0 z36) 33) (.cells (mat c r (matP (turnG l n q))) 33))) (fun k w' => 6 - (intOf k).toNat)
      case atStart => exact ⟨0, by omega, rfl, HT⟩
      case round =>
        clear HT
        obtain ⟨q, hq, rfl, HT⟩ := hrel
        by_cases hlq : q < 6
        · have gx := mat_cell HT.out.hg HL.out hltn hlq
          have gy := mat_cell HT.out.ho (matP_len _) hlq hltn
          have gf : wr.frozen? ⟨w.heap.size + 1, 2 + q * 6 + n, none⟩ = false := frozen_of_row _ _ _ _ _ HT.out.ho
          have HS := Aside0.mk (turnG_set l n q hltn hlq)
          generalize l.getD (n * 6 + q) 0 = x at gx HS
          generalize (matP (turnG l n q)).getD (q * 6 + n) 0 = y at gy
          go_wp2_with fail
          go_region
          all_goals go_wp2_with fail
          all_goals exact ⟨⟨q + 1, by omega, by go_num, ⟨(HT.out.set (by omega) (by omega) (by omega) q n x HS.out).drewN 1⟩⟩, by simp [intOf]; omega⟩
        · obtain rfl : q = 6 := by omega
          go_wp2_with fail
          exact ⟨⟨n + 1, by omega, by go_num, ⟨by rw [← turnG_row]; exact HT.out⟩⟩, by simp [intOf]; omega⟩
    · obtain rfl : n = 6 := by omega
      have HS := Aside0.mk (mat_size c r (turnL l) (matP_len _))
      have H := HT.out
      rw [turnG_all] at H
      have HT' := Aside0.mk H
      clear H HT
      go_wp2_with (first
        | (refine wpList_load_row rfl 33 _ rfl (w.heap.size + 1) rfl 33 _ (0, 0) _ HT'.out.ho Try.underlying33 rfl (size33.trans (congrArg some HS.out.symm)) ?_)
        | (refine wpList_store_row rfl 33 _ _ rfl w.heap.size _ rfl rfl 33 _ HT'.out.hz (size33.trans (congrArg some HS.out.symm)) (Eq.trans rfl HS.out.symm) (mat_all _ _ _) ?_))
      refine bodyPost_ret (v := .agg (mat c r (turnL l))) (results_cell_row rfl _ _ w.heap.size 33 _ (0, 0) _ rfl (heap_setRow_same HT'.out.hz) Try.underlying33 rfl (size33.trans (congrArg some HS.out.symm))) rfl ⟨rfl, ?_⟩
      exact below_setRow HT'.out.hb (Nat.le_refl _) _
end Go.Proofs.Ytjffoemohcebjaa.Mx
