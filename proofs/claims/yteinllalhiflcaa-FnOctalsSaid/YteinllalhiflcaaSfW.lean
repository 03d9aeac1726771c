/- A row of pairs whose block a sort has rewritten: what of the world stays, and what the row holds. -/
import Derived.Test.YteinllalhiflcaaPairs
import Derived.Shelf.GgSortFunc.InsertionK
set_option linter.unusedVariables false
set_option linter.unusedSimpArgs false
namespace Go.Proofs.Yteinllalhiflcaa.Sf
open Go.RowKit Go.Sort Go.Proofs.Yteinllalhiflcaa.Arr Go.Proofs.Yteinllalhiflcaa.Pairs Go.Proofs.YteinllalhiflcaaW.PrintWords Go.Proofs.YteinllalhiflcaaW.PrintLast
def e2 (x : Int × Int) : List Value := [.int .i64 x.1, .int .i64 x.2]
theorem sw_heap (w : World) (g n : Nat) (d : Array (Int × Int)) (os : Array Obj) : (sortWorldK e2 2 w g 0 n d os).heap = w.heap.modify g (onCells (putCells id 0 (flatK e2 2 d))) ++ os := rfl
theorem sw_other (w : World) (g n : Nat) (d : Array (Int × Int)) (os : Array Obj) (i : Nat) (hi : i < w.heap.size) (hg : i ≠ g) : (sortWorldK e2 2 w g 0 n d os).heap[i]? = w.heap[i]? := by
  rw [sw_heap, Array.getElem?_append, if_pos (by simpa using hi), Array.getElem?_modify, if_neg (fun e => hg e.symm)]
theorem sw_same (w : World) (g n : Nat) (d : Array (Int × Int)) (os : Array Obj) {cs : Array Value} {t : TypeId} {fr : Nat × Nat} (h : w.heap[g]? = some (.cells cs t fr)) : (sortWorldK e2 2 w g 0 n d os).heap[g]? = some (.cells (putCells id 0 (flatK e2 2 d) cs) t fr) := by
  have hg := (Array.getElem?_eq_some_iff.1 h).1
  rw [sw_heap, Array.getElem?_append, if_pos (by simpa using hg), Array.getElem?_modify, if_pos rfl, h]
  rfl
theorem sw_size (w : World) (g n : Nat) (d : Array (Int × Int)) (os : Array Obj) : w.heap.size ≤ (sortWorldK e2 2 w g 0 n d os).heap.size := by
  rw [sw_heap]
  simp
theorem flat_at (ys : List (Int × Int)) (j : Nat) (x : Int × Int) (h : ys[j]? = some x) : (flatK e2 2 ys.toArray)[j * 2]! = .int .i64 x.1 ∧ (flatK e2 2 ys.toArray)[j * 2 + 1]! = .int .i64 x.2 := by
  have hj := (List.getElem?_eq_some_iff.1 h).1
  have hx : ys.toArray[j]! = x := by
    rw [getElem!_pos ys.toArray j (by simpa using hj)]
    simpa using (List.getElem?_eq_some_iff.1 h).2
  constructor
  · rw [get_flatK _ _ _ _ (by simp; omega), show j * 2 / 2 = j by omega, show j * 2 % 2 = 0 by omega, hx]
    rfl
  · rw [get_flatK _ _ _ _ (by simp; omega), show (j * 2 + 1) / 2 = j by omega, show (j * 2 + 1) % 2 = 1 by omega, hx]
    rfl
theorem put_at (ys : List (Int × Int)) (cs : Array Value) (hc : ys.length * 2 ≤ cs.size) (j : Nat) (x : Int × Int) (h : ys[j]? = some x) : (putCells id 0 (flatK e2 2 ys.toArray) cs)[j * 2]? = some (.int .i64 x.1) ∧ (putCells id 0 (flatK e2 2 ys.toArray) cs)[j * 2 + 1]? = some (.int .i64 x.2) := by
  have hj := (List.getElem?_eq_some_iff.1 h).1
  obtain ⟨h1, h2⟩ := flat_at ys j x h
  unfold putCells
  constructor
  · rw [Array.getElem?_mapIdx, Array.getElem?_eq_getElem (show j * 2 < cs.size by omega)]
    simp only [Option.map_some]
    rw [if_pos ⟨by omega, by simp; omega⟩, Nat.sub_zero, h1]
    rfl
  · rw [Array.getElem?_mapIdx, Array.getElem?_eq_getElem (show j * 2 + 1 < cs.size by omega)]
    simp only [Option.map_some]
    rw [if_pos ⟨by omega, by simp; omega⟩, Nat.sub_zero, h2]
    rfl
/-- A row of pairs out of its cells. -/
theorem R_of_cells {w : World} {base : Nat} {ok : Nat → Prop} {g cap : Nat} {t : Nat} {cs : Array Value} {xs : List (Int × Int)} (h1 : w.heap[g]? = some (.cells cs t (0, 0))) (h2 : cs.size = cap * 2)
    (h4 : ∀ j x, xs[j]? = some x → cs[j * 2]? = some (.int .i64 x.1) ∧ cs[j * 2 + 1]? = some (.int .i64 x.2)) (hg : base ≤ g) (hn : xs.length ≤ cap) (hc : cap ≤ maxLen) (hok : ok g) :
    K2.R t w base ok (.slice (some ⟨g, 0, none⟩) xs.length cap) xs := by
  have hll : (cs.toList.take (xs.length * 2)).length = xs.length * 2 := by
    have hq : cs.toList.length = cs.size := Array.length_toList
    rw [List.length_take, hq]; omega
  refine ⟨fun k hk => ?_, cs.toList.take (xs.length * 2), ⟨hll, .inr ⟨g, cap, cs, rfl, hg, h1, hn, hc, h2, rfl⟩⟩, hll, fun j p hj => ?_⟩
  · have : g = k := by simpa [Value.ownBlock] using hk
    exact this ▸ hok
  · have hjn : j < xs.length := (List.getElem?_eq_some_iff.1 hj).1
    obtain ⟨c1, c2⟩ := h4 j p hj
    refine ⟨[.int .i64 p.1], [.int .i64 p.2], ?_, rfl, rfl⟩
    apply List.ext_getElem?
    intro i
    rw [List.getElem?_take, show K2.sz = 2 from rfl]
    by_cases hi : i < 2
    · rw [if_pos hi, List.getElem?_drop, List.getElem?_take, if_pos (by omega), Array.getElem?_toList]
      match i, hi with
      | 0, _ => rw [Nat.add_zero, c1]; rfl
      | 1, _ => rw [c2]; rfl
    · rw [if_neg hi, List.getElem?_eq_none (by simp; omega)]
/-- What is asked of a row ahead of a sort, and what is told behind it. -/
theorem sort_R {t : Nat} {w0 w : World} {ok : Nat → Prop} {v : Value} {xs : List (Int × Int)} (hR : K2.R t w w0.heap.size ok v xs) (hp : 0 < xs.length) (hb : Below w0.heap.size w0 w) :
    ∃ g cap, v = .slice (some ⟨g, 0, none⟩) xs.length cap ∧ g < w.heap.size ∧ HoldsK e2 2 w g 0 xs.toArray ∧
      ∀ (ys : List (Int × Int)), ys.length = xs.length → ∀ n os, K2.R t (sortWorldK e2 2 w g 0 n ys.toArray os) w0.heap.size ok v ys ∧ Below w0.heap.size w0 (sortWorldK e2 2 w g 0 n ys.toArray os) ∧ Kept w (sortWorldK e2 2 w g 0 n ys.toArray os) ok := by
  have h0 := hR.1
  obtain ⟨g, cap, rfl, hg, hl, hok, hn, hc, cs, h1, h2⟩ := pr_of_R hR hp
  obtain ⟨-, inner, ho, hr⟩ := hR
  rcases ho.2 with ⟨he, _⟩ | ⟨g', cap', cur, he, hg', hh, k1, k2, k3, k4⟩
  · exact absurd he (by simp)
  · injection he with e1 _ e2
    injection e1 with e1
    injection e1 with e1
    subst e1 e2
    obtain rfl : cs = cur := by
      rw [h1] at hh
      injection hh with hh
      injection hh
    have k3' : cs.size = cap * 2 := k3
    refine ⟨g, cap, rfl, hl, ?_, fun ys hy n os => ⟨?_, ?_, ?_⟩⟩
    · intro j hj
      have hj2 : j < xs.length * 2 := by simpa using hj
      obtain ⟨s1, s2, s3⟩ := h2 (j / 2) _ (List.getElem?_eq_getElem (by omega))
      obtain ⟨f1, f2⟩ := flat_at xs (j / 2) _ (List.getElem?_eq_getElem (by omega))
      refine ⟨?_, frozen_of_row _ _ _ _ _ h1⟩
      rw [Nat.zero_add, cell_of_row _ _ _ _ _ _ h1]
      rcases Nat.mod_two_eq_zero_or_one j with e | e
      · rw [show j = j / 2 * 2 by omega, s2, f1]
        rfl
      · rw [show j = j / 2 * 2 + 1 by omega, s3, f2]
        rfl
    · have := R_of_cells (base := w0.heap.size) (ok := ok) (cap := cap) (xs := ys) (sw_same w g n ys.toArray os h1) (by unfold putCells; rw [Array.size_mapIdx]; exact k3') (fun j x hj => put_at ys cs (by rw [hy]; omega) j x hj) hg (by rw [hy]; exact hn) k2 hok
      rw [hy] at this
      exact this
    · exact ⟨hb.os, hb.tape, hb.output, Nat.le_trans hb.size (sw_size w g n _ os), fun i hi => (sw_other w g n _ os i (Nat.lt_of_lt_of_le hi hb.size) (by omega)).trans (hb.block i hi)⟩
    · exact ⟨sw_size w g n _ os, fun i hi hne => sw_other w g n _ os i hi (fun e => hne (e ▸ hok))⟩
end Go.Proofs.Yteinllalhiflcaa.Sf
