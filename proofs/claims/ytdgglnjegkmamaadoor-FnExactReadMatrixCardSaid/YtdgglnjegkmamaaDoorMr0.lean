/- A matrix that is read: what is built, stored and copied. No condition but the lengths. -/
import Derived.Test.YtdgglnjegkmamaaDoorMx7
import Derived.Laws.CopyOwn
set_option linter.unusedVariables false
set_option linter.unusedSimpArgs false
namespace Go.Proofs.YtdgglnjegkmamaaDoor.Mx
open Go.RowKit Go.Proofs.YtdgglnjegkmamaaDoor.Arr Go.Proofs.YtdgglnjegkmamaaDoorW.PrintWords Go.Proofs.YtdgglnjegkmamaaDoorW.PrintLast

def z36 : List Int := List.replicate 36 0
theorem z36_len : z36.length = 36 := rfl
theorem built0 (w : World) : (Instr.build 33 #[]).run Tryd.prog w = .ok (.agg (mat 0 0 z36)) w := run_build w 33 _ _ (by kernel_rfl)
theorem zero33 (w : World) : (zeroValue 33).run Tryd.prog w = .ok (.agg (mat 0 0 z36)) w := by rw [Tryd.zeroValue33]; rfl
/-- A matrix's cells by row and column. -/
def matP (g : Nat → Nat → Int) : List Int := (List.range 36).map fun p => g (p / 6) (p % 6)
theorem matP_len (g : Nat → Nat → Int) : (matP g).length = 36 := by simp [matP]
theorem matP_get (g : Nat → Nat → Int) {i k : Nat} (hi : i < 6) (hk : k < 6) : (matP g)[i * 6 + k]? = some (g i k) := by
  simp only [matP, List.getElem?_map, List.getElem?_range (show i * 6 + k < 36 by omega), Option.map_some]
  rw [show (i * 6 + k) / 6 = i by omega, show (i * 6 + k) % 6 = k by omega]
theorem matP_getD (g : Nat → Nat → Int) {i k : Nat} (hi : i < 6) (hk : k < 6) : (matP g).getD (i * 6 + k) 0 = g i k := by
  rw [List.getD_eq_getElem?_getD, matP_get g hi hk]
  rfl
theorem matP_congr {g h : Nat → Nat → Int} (e : ∀ i k, i < 6 → k < 6 → g i k = h i k) : matP g = matP h := by
  unfold matP
  apply List.map_congr_left
  intro p hp
  have := List.mem_range.1 hp
  exact e _ _ (by omega) (by omega)
theorem matP_set (g : Nat → Nat → Int) (i k : Nat) (v : Int) (hi : i < 6) (hk : k < 6) : (matP g).set (i * 6 + k) v = matP (fun a b => if a = i ∧ b = k then v else g a b) := by
  apply List.ext_getElem?
  intro j
  rw [List.getElem?_set]
  by_cases hj : j < 36
  · have hj2 : j = (j / 6) * 6 + j % 6 := by omega
    rw [hj2, matP_get _ (by omega) (by omega), matP_get _ (by omega) (by omega), matP_len]
    by_cases h : i * 6 + k = j / 6 * 6 + j % 6
    · have h1 : j / 6 = i := by omega
      have h2 : j % 6 = k := by omega
      rw [if_pos h, if_pos (by omega), if_pos ⟨h1, h2⟩]
    · rw [if_neg h, if_neg (by omega)]
  · rw [if_neg (by omega), List.getElem?_eq_none (by rw [matP_len]; omega), List.getElem?_eq_none (by rw [matP_len]; omega)]
theorem matP_of {l : List Int} (hl : l.length = 36) : matP (fun i k => l.getD (i * 6 + k) 0) = l := by
  apply List.ext_getElem?
  intro j
  by_cases hj : j < 36
  · rw [show j = (j / 6) * 6 + j % 6 by omega, matP_get _ (by omega) (by omega), List.getD_eq_getElem?_getD, List.getElem?_eq_getElem (by omega)]
    rfl
  · rw [List.getElem?_eq_none (by rw [matP_len]; omega), List.getElem?_eq_none (by omega)]
theorem z36_P : z36 = matP (fun _ _ => 0) := by decide
theorem lit_store {Z M : Array Value} (hZ : Z.size = 38) (hM : M.size = 38) (hA : M.all (·.oneCell') = true) (v : World) (n : Nat) (hn : n = v.heap.size) : (storeCells ⟨n, 0, none⟩ M.toList).run Tryd.prog (v.alloc (.cells Z 33)) = .ok () (v.alloc (.cells M 33)) := by
  subst hn
  exact run_storeCells_new v 33 _ _ (size33.trans (congrArg some hM.symm)) (hZ.trans hM.symm) hA
theorem results_pair {P : Program} {fn : Func} {p u : Tmp} {ty : TypeId} (h : fn.results = #[.cell p ty, .tmp u]) (tmps : Array Value) (w : World) (g : Nat) (t : TypeId) (cs : Array Value) (fr : Nat × Nat) (d : TypeDesc) (x : Value)
    (hp : tmps.getD p undef = .pointer (some ⟨g, 0, none⟩)) (hx : tmps.getD u undef = x) (hg : w.heap[g]? = some (.cells cs t fr))
    (hu : P.underlying ty = some d) (hd : (match d with | .struct _ | .array _ _ => true | _ => false) = true) (hi : (P.info? ty).map (·.size) = some cs.size) :
    (results fn tmps).run P w = .ok (.tuple #[.agg cs, x]) w := by
  rw [results_cell_tmp h, hp, hx]
  simp [asAddr, Result.andThen, run_loadVar_row w g t ty cs fr d hg hu hd hi]
theorem zne : (mat 0 0 z36 = #[]) = False := by simp [mat]
theorem zsize : (mat 0 0 z36).size = 38 := mat_size _ _ _ rfl
theorem keep_step {w' w2 : World} {b : Nat} {o : Obj} (h : w'.heap[b]? = some o) (k : Below w'.heap.size w' w2) : w2.heap[b]? = some o := by rw [k.block _ (Array.getElem?_eq_some_iff.1 h).1]; exact h
theorem keep_stored {w2 : World} {b : Nat} {o : Obj} (h : w2.heap[b]? = some o) (A : Obj) (T : Array Value) : ((w2.alloc A).setRow w2.heap.size T).heap[b]? = some o := by
  have hlt := (Array.getElem?_eq_some_iff.1 h).1
  rw [setRow_other _ _ _ _ (by omega), heap_lo _ _ _ hlt]
  exact h
theorem stored_at (w2 : World) (Z T : Array Value) (t : TypeId) : ((w2.alloc (.cells Z t)).setRow w2.heap.size T).heap[w2.heap.size]? = some (.cells T t) := heap_setRow_same (heap_at _ _ _ rfl)
/-- A matrix of which the rows alone are told, built and stored, under names of their own. -/
theorem lit_names1 (x : Int) : ∃ Z M : Array Value, Aside0 (Z = mat 0 0 z36) ∧ Aside0 (M = mat x 0 z36) ∧ (∀ w : World, (zeroValue 33).run Tryd.prog w = .ok (.agg Z) w) ∧ (Z = #[]) = False ∧ Z.setIfInBounds 0 (.int .i8 x) = M ∧
    (∀ (v : World) (n : Nat), n = v.heap.size → (storeCells ⟨n, 0, none⟩ M.toList).run Tryd.prog (v.alloc (.cells Z 33)) = .ok () (v.alloc (.cells M 33))) ∧ (∀ (v : World) (n : Nat), n = v.heap.size → (storeCells ⟨n, 0, none⟩ M.toList).run Tryd.prog (v.alloc (.cells Z 33)).drew = .ok () (v.alloc (.cells M 33)).drew) ∧ M.size = 38 ∧ Z.size = 38 :=
  have hZ := mat_size 0 0 z36 rfl
  have hM := mat_size x 0 z36 rfl
  ⟨mat 0 0 z36, mat x 0 z36, ⟨rfl⟩, ⟨rfl⟩, zero33, by simp [mat], by rw [mat_set0], lit_store hZ hM (mat_all _ _ _), fun v n hn => lit_store hZ hM (mat_all _ _ _) v.drew n hn, hM, hZ⟩
/-- Row i with the first q of a list's numbers. -/
def putQ (M l : List Int) (i q : Nat) : List Int := M.take (i * 6) ++ (l.take q ++ M.drop (i * 6 + q))
theorem putQ_len (M l : List Int) (i q : Nat) (hM : M.length = 36) (hi : i < 6) (hq : q ≤ l.length) (hl : l.length ≤ 6) : (putQ M l i q).length = 36 := by
  unfold putQ
  rw [List.length_append, List.length_append, List.length_take, List.length_take, List.length_drop]
  omega
theorem putQ_zero (M l : List Int) (i : Nat) : putQ M l i 0 = M := by simp [putQ]
theorem putQ_get (M l : List Int) (i q j : Nat) (hM : M.length = 36) (hi : i < 6) (hq : q ≤ l.length) (hl : l.length ≤ 6) : (putQ M l i q)[j]? = if j < i * 6 then M[j]? else if j < i * 6 + q then l[j - i * 6]? else M[j]? := by
  unfold putQ
  have h1 : (M.take (i * 6)).length = i * 6 := by rw [List.length_take]; omega
  have h2 : (l.take q).length = q := by rw [List.length_take]; omega
  rw [List.getElem?_append, h1]
  by_cases c : j < i * 6
  · rw [if_pos c, if_pos c, List.getElem?_take, if_pos c]
  · rw [if_neg c, if_neg c, List.getElem?_append, h2]
    by_cases d : j < i * 6 + q
    · rw [if_pos (by omega), if_pos d, List.getElem?_take, if_pos (by omega)]
    · rw [if_neg (by omega), if_neg d, List.getElem?_drop]
      congr 1
      omega
theorem putQ_set (M l : List Int) (i q : Nat) (hM : M.length = 36) (hi : i < 6) (hq : q < l.length) (hl : l.length ≤ 6) : (putQ M l i q).set (i * 6 + q) (l.getD q 0) = putQ M l i (q + 1) := by
  apply List.ext_getElem?
  intro j
  rw [List.getElem?_set, putQ_get M l i (q + 1) j hM hi hq hl, putQ_get M l i q j hM hi (by omega) hl, putQ_len M l i q hM hi (by omega) hl]
  by_cases c : i * 6 + q = j
  · rw [if_pos c, if_pos (by omega), if_neg (by omega), if_pos (by omega), ← c, show i * 6 + q - i * 6 = q by omega, List.getD_eq_getElem?_getD, List.getElem?_eq_getElem hq]
    rfl
  · rw [if_neg c]
    by_cases d : j < i * 6
    · rw [if_pos d, if_pos d]
    · rw [if_neg d, if_neg d]
      by_cases e : j < i * 6 + q
      · rw [if_pos e, if_pos (by omega)]
      · rw [if_neg e, if_neg (by omega)]
/-- A whole list, copied into row i. -/
theorem mat_copy (r c : Int) (M l : List Int) (i : Nat) (hM : M.length = 36) (hi : i < 6) (hl : l.length ≤ 6) :
    ((mat r c M).toList.take (2 + i * 6) ++ (l.map (Value.int .u16) ++ (mat r c M).toList.drop (2 + i * 6 + (l.map (Value.int .u16)).length))).toArray = mat r c (putQ M l i l.length) := by
  have e : (mat r c M).toList = Value.int .i8 r :: Value.int .i8 c :: M.map (Value.int .u16) := rfl
  rw [e, List.length_map, show 2 + i * 6 = (i * 6) + 1 + 1 by omega, show (i * 6) + 1 + 1 + l.length = (i * 6 + l.length) + 1 + 1 by omega, List.take_succ_cons, List.take_succ_cons, List.drop_succ_cons, List.drop_succ_cons]
  unfold mat putQ
  rw [List.map_append, List.map_append, List.map_take, List.map_drop, List.take_length]
  rfl
/-! The rows, one by one. -/
def mxStep (c : Int) (M : List Int) (i : Nat) : Option (List Int) → Option (Int × List Int)
  | none => none
  | some l => if (1 ≤ l.length ∧ l.length ≤ 6) ∧ (i = 0 ∨ (l.length : Int) = c) then some ((l.length : Int), putQ M l i l.length) else none
def mxAll (L : Nat → Option (List Int)) : Nat → Nat → Int → List Int → Option (Int × List Int)
  | 0, _, c, M => some (c, M)
  | d + 1, i, c, M => (mxStep c M i (L i)).bind fun p => mxAll L d (i + 1) p.1 p.2
def resM (n : Nat) : Option (Int × List Int) → Array Value
  | some p => mat (n : Int) p.1 p.2
  | none => mat 0 0 z36
def resE : Option (Int × List Int) → Int
  | some _ => 0
  | none => 5
theorem i8_small (n : Nat) (h : n ≤ 6) : IntKind.i8.wrap (n : Int) = (n : Int) := by
  have : n = 0 ∨ n = 1 ∨ n = 2 ∨ n = 3 ∨ n = 4 ∨ n = 5 ∨ n = 6 := by omega
  rcases this with rfl | rfl | rfl | rfl | rfl | rfl | rfl <;> decide
end Go.Proofs.YtdgglnjegkmamaaDoor.Mx
