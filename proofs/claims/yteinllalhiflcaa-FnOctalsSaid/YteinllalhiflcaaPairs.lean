/- Rows of pairs of whole numbers ([][2]int64): equal pairs are told equal; a row of the call's own is marked, and the marks are held. -/
import Derived.Test.YteinllalhiflcaaProg
import Derived.Test.YteinllalhiflcaaArr
import Derived.Test.YteinllalhiflcaaWKept
import Derived.Test.YteinllalhiflcaaWMore
import Derived.OpenShut
import Derived.ChangeKeysEq
import Derived.Deep.Strs
import Derived.Lib.SmallJoins
set_option linter.unusedVariables false
set_option linter.unusedSimpArgs false
namespace Go.Proofs.Yteinllalhiflcaa.Pairs
open Go.RowKit Go.Proofs.Yteinllalhiflcaa.Arr Go.Proofs.YteinllalhiflcaaW.PrintWords Go.Proofs.YteinllalhiflcaaW.PrintLast

abbrev K2 : Kd (Int × Int) := Kd.pair (Kd.int .i64) (Kd.int .i64)
@[irreducible] def p2 (x : Int × Int) : Array Value := #[.int .i64 x.1, .int .i64 x.2]
theorem p2_def (x : Int × Int) : p2 x = #[.int .i64 x.1, .int .i64 x.2] := by unfold p2; rfl
theorem p2_size (x : Int × Int) : (p2 x).size = 2 := by rw [p2_def]; rfl
def nth (x : Int × Int) (k : Nat) : Int := if k = 0 then x.1 else x.2
theorem p2_get (x : Int × Int) (k : Nat) (hk : k < 2) : (p2 x)[k]? = some (.int .i64 (nth x k)) := by
  rw [p2_def]
  match k, hk with
  | 0, _ => rfl
  | 1, _ => rfl
/-- Pairs that stand in a block. -/
def Pr (w : World) (g : Nat) (t : TypeId) (xs : List (Int × Int)) : Prop :=
  ∃ cs, w.heap[g]? = some (.cells cs t (0, 0)) ∧ ∀ j x, xs[j]? = some x → j * 2 + 2 ≤ cs.size ∧ cs[j * 2]? = some (.int .i64 x.1) ∧ cs[j * 2 + 1]? = some (.int .i64 x.2)
theorem pr_of_R {e base : Nat} {w : World} {ok : Nat → Prop} {v : Value} {xs : List (Int × Int)} (h : K2.R e w base ok v xs) (hp : 0 < xs.length) :
    ∃ g cap, v = .slice (some ⟨g, 0, none⟩) xs.length cap ∧ base ≤ g ∧ g < w.heap.size ∧ ok g ∧ xs.length ≤ cap ∧ (cap : Int) ≤ 9223372036854775807 ∧ Pr w g e xs := by
  have h0 := h.1
  obtain ⟨-, inner, ho, hr⟩ := h
  rcases ho.2 with ⟨rfl, hn⟩ | ⟨g, cap, cur, rfl, hg, hh, h1, h2, h3, h4⟩
  · omega
  · refine ⟨g, cap, rfl, hg, (Array.getElem?_eq_some_iff.1 hh).1, h0 g rfl, h1, by unfold maxLen at h2; omega, cur, hh, fun j x hj => ?_⟩
    obtain ⟨c0, c1, hcc, k0, k1⟩ := hr.2 j x hj
    have k0' : c0 = [.int .i64 x.1] := k0
    have k1' : c1 = [.int .i64 x.2] := k1
    subst k0' k1'
    have hjl := (List.getElem?_eq_some_iff.1 hj).1
    have hsz : K2.sz = 2 := rfl
    rw [hsz] at h3 h4 hcc
    have ha : ∀ i, i < 2 → cur[j * 2 + i]? = ([Value.int .i64 x.1] ++ [Value.int .i64 x.2])[i]? := fun i hi => by
      rw [← hcc, List.getElem?_take, if_pos hi, List.getElem?_drop, ← h4, List.getElem?_take, if_pos (by omega), Array.getElem?_toList]
    exact ⟨by omega, by simpa using ha 0 (by omega), by simpa using ha 1 (by omega)⟩
theorem heap_at (w : World) (o : Obj) (n : Nat) (h : n = w.heap.size) : (w.alloc o).heap[n]? = some o := by subst h; exact heap_alloc_new w o
theorem heap_lo (w : World) (o : Obj) (i : Nat) (h : i < w.heap.size) : (w.alloc o).heap[i]? = w.heap[i]? := Below.heap_alloc w o i h
/-- Two boxes that are kept. -/
structure Bx2 (w w' : World) (o1 o2 : Obj) : Prop where
  hb : Below w.heap.size w w'
  h1 : w'.heap[w.heap.size]? = some o1
  h2 : w'.heap[w.heap.size + 1]? = some o2
theorem Bx2.start (w : World) (o1 o2 : Obj) : Bx2 w ((w.alloc o1).alloc o2) o1 o2 :=
  ⟨below_alloc (below_alloc (Below.refl _ _) _) _, by rw [heap_lo _ _ _ (by simp)]; exact heap_at _ _ _ rfl, heap_at _ _ _ (by simp)⟩
theorem Bx2.drewN {w w' o1 o2} (h : Bx2 w w' o1 o2) (n : Nat) : Bx2 w (w'.drewN n) o1 o2 := ⟨pw_below_drewN h.hb n, h.h1, h.h2⟩
theorem p2_cell {w : World} {b : Nat} {t : TypeId} {fr : Nat × Nat} {x : Int × Int} (h : w.heap[b]? = some (.cells (p2 x) t fr)) (k : Nat) (hk : k < 2) : w.cell? ⟨b, k, none⟩ = some (.int .i64 (nth x k)) := by
  rw [cell_of_row _ _ _ _ _ _ h, p2_get x k hk]
set_option maxHeartbeats 800000 in
set_option maxRecDepth 100000 in
theorem eqA2 (x : Int × Int) (w : World) :
    Calls Try.prog 66 #[.agg (p2 x), .agg (p2 x)] w fun e w' => e = .returned (.bool true) ∧ Below w.heap.size w w' := by
  have HX := Aside0.mk (Bx2.start w (.cells (p2 x) 46) (.cells (p2 x) 46))
  go_enter Try.func66, Try.ntmps66
  go_wp2
  go_loopw [5] (fun i w' => ∃ k : Nat, k ≤ 2 ∧ i = .int .i64 k ∧ Aside0 (Bx2 w w' (.cells (p2 x) 46) (.cells (p2 x) 46))) (fun i w' => 6 - (intOf i).toNat)
  case atStart => exact ⟨0, by omega, rfl, HX⟩
  case round =>
    clear HX
    obtain ⟨k, hk, rfl, HX⟩ := hrel
    by_cases hlt : k < 2
    · have c1 := p2_cell HX.out.h1 k hlt
      have c2 := p2_cell HX.out.h2 k hlt
      generalize nth x k = y at c1 c2
      go_wp2_with fail
      go_quiet (fail)
      go_wp2_with fail
      exact ⟨⟨k + 1, by omega, by go_num, (by first | exact HX | exact ⟨HX.out.drewN _⟩)⟩, by simp [intOf]; omega⟩
    · obtain rfl : k = 2 := by omega
      go_wp2_with fail
      go_ret
      exact ⟨rfl, (by first | exact HX.out.hb | exact (HX.out.drewN _).hb)⟩
/-- The pairs that a row of n pairs holds when it is marked from k on. -/
def marks (n : Nat) (k0 : Int) : List (Int × Int) := (List.range n).map fun (j : Nat) => (k0 + ((j * 2 : Nat) : Int), k0 + ((j * 2 + 1 : Nat) : Int))
theorem marks_len (n : Nat) (k0 : Int) : (marks n k0).length = n := by simp [marks]
theorem marks_at (n : Nat) (k0 : Int) (j : Nat) (h : j < n) : (marks n k0)[j]? = some (k0 + ((j * 2 : Nat) : Int), k0 + ((j * 2 + 1 : Nat) : Int)) := by simp [marks, h]
/-- Block g alone has been written: its first m numbers are k0, k0 + 1 and so on. -/
structure Mk (w0 w w' : World) (g : Nat) (t : TypeId) (n m cap : Nat) (k0 : Int) : Prop where
  hb : Below w0.heap.size w0 w'
  hs : w.heap.size ≤ w'.heap.size
  keep : ∀ i, i < w.heap.size → i ≠ g → w'.heap[i]? = w.heap[i]?
  cs : ∃ cs, w'.heap[g]? = some (.cells cs t (0, 0)) ∧ cs.size = cap * 2 ∧ (∀ p, p < n → ∃ v, cs[p]? = some (.int .i64 v)) ∧ ∀ p, p < m → cs[p]? = some (.int .i64 (k0 + (p : Int)))
theorem Mk.cell {w0 w w' g t n m cap k0} (h : Mk w0 w w' g t n m cap k0) (hm : m < n) : ∃ v, w'.cell? ⟨g, m, none⟩ = some (.int .i64 v) := by
  obtain ⟨cs, h1, _, h2, h3⟩ := h.cs
  obtain ⟨v, hv⟩ := h2 m hm
  exact ⟨v, by rw [cell_of_row _ _ _ _ _ _ h1]; exact hv⟩
theorem Mk.held {w0 w w' g t n m cap k0} (h : Mk w0 w w' g t n m cap k0) (p : Nat) (hp : p < m) : w'.cell? ⟨g, p, none⟩ = some (.int .i64 (k0 + (p : Int))) := by
  obtain ⟨cs, h1, _, h2, h3⟩ := h.cs
  rw [cell_of_row _ _ _ _ _ _ h1]
  exact h3 p hp
theorem Mk.frozen {w0 w w' g t n m cap k0} (h : Mk w0 w w' g t n m cap k0) (j : Nat) : w'.frozen? ⟨g, j, none⟩ = false := by
  obtain ⟨cs, h1, _, h2, h3⟩ := h.cs
  exact frozen_of_row _ _ _ _ _ h1
theorem Mk.set {w0 w w' g t n m cap k0} (h : Mk w0 w w' g t n m cap k0) (hg : w0.heap.size ≤ g) (hm : m < n) (z : Int) (hz : z = k0 + (m : Int)) : Mk w0 w (w'.setCell ⟨g, m, none⟩ (.int .i64 z)) g t n (m + 1) cap k0 := by
  subst hz
  obtain ⟨cs, h1, hc, h2, h3⟩ := h.cs
  obtain ⟨v, hv⟩ := h2 m hm
  have hsz := (Array.getElem?_eq_some_iff.1 hv).1
  refine ⟨h.hb.setCell hg _, Nat.le_trans h.hs ((Below.refl 0 w').setCell (Nat.zero_le _) _).size, fun i hi hg => by rw [heap_setCell_other _ _ _ _ hg]; exact h.keep i hi hg, _, heap_setCell_same _ _ _ _ _ _ h1, by simpa using hc, fun p hp => ?_, fun p hp => ?_⟩
  · rw [Array.getElem?_setIfInBounds]
    by_cases e : m = p
    · rw [if_pos e, if_pos hsz]
      exact ⟨_, rfl⟩
    · rw [if_neg e]
      exact h2 p hp
  · rw [Array.getElem?_setIfInBounds]
    by_cases e : m = p
    · rw [if_pos e, if_pos hsz, e]
    · rw [if_neg e]
      exact h3 p (by omega)
theorem Mk.drewN {w0 w w' g t n m cap k0} (h : Mk w0 w w' g t n m cap k0) (j : Nat) : Mk w0 w (w'.drewN j) g t n m cap k0 := ⟨pw_below_drewN h.hb j, h.hs, h.keep, h.cs⟩
set_option maxHeartbeats 800000 in
set_option maxRecDepth 100000 in
theorem mark_pos (g : Nat) (t : TypeId) (c n cap : Nat) (hm : (n : Int) ≤ 1099511627776) (k0 : Int) (hk0 : 0 ≤ k0 ∧ k0 ≤ 1099511627776) (w0 w : World) (hg : w0.heap.size ≤ g) (h : Mk w0 w w g t (n * 2) 0 cap k0) :
    Calls Try.prog 16 #[.slice (some ⟨g, 0, none⟩) n c, .int .i64 k0] w fun e w' => e = .returned (.int .i64 (k0 + (n : Int) * 2)) ∧ Mk w0 w w' g t (n * 2) (n * 2) cap k0 := by
  have HX := Aside0.mk h
  clear h
  go_enter Try.func16, Try.ntmps16
  go_wp2
  go_loopw [1, 5] (fun kv i w' => ∃ (k : Nat) (z : Int), k ≤ n ∧ Aside0 (z = k0 + (k : Int) * 2) ∧ kv = .int .i64 z ∧ i = .int .i64 k ∧ Aside0 (Mk w0 w w' g t (n * 2) (k * 2) cap k0)) (fun kv i w' => n - (intOf i).toNat)
  case atStart => exact ⟨0, k0, by omega, ⟨by omega⟩, rfl, rfl, HX⟩
  case round =>
    clear HX
    obtain ⟨k, z, hk, HZ, rfl, rfl, HX⟩ := hrel
    by_cases hlt : k < n
    · have lkI : (k : Int) < (n : Int) := by omega
      have hw : IntKind.i64.wrap ((k : Int) + 1) = (k : Int) + 1 := by rw [i64_w]; unfold wrap64; omega
      go_wp2_with fail
      go_loopw [1, 6] (fun kv j w' => ∃ (q : Nat) (y : Int), q ≤ 2 ∧ Aside0 (y = k0 + ((k * 2 + q : Nat) : Int)) ∧ kv = .int .i64 y ∧ j = .int .i64 q ∧ Aside0 (Mk w0 w w' g t (n * 2) (k * 2 + q) cap k0)) (fun kv j w' => 2 - (intOf j).toNat)
      case atStart => exact ⟨0, z, by omega, ⟨by rw [HZ.out]; omega⟩, rfl, rfl, HX⟩
      case round =>
        clear HX
        obtain ⟨q, y, hq, HY, rfl, rfl, HX⟩ := hrel
        by_cases hlq : q < 2
        · have lqI : (q : Int) < 2 := by omega
          have hy := HY.out
          have hw2 : IntKind.i64.wrap (y + 1) = y + 1 := by rw [i64_w]; unfold wrap64; omega
          have hw3 : IntKind.i64.wrap ((q : Int) + 1) = (q : Int) + 1 := by rw [i64_w]; unfold wrap64; omega
          clear hy
          obtain ⟨v, c1⟩ := HX.out.cell (by omega)
          have cf := HX.out.frozen (k * 2 + q)
          go_wp2_with fail
          have HX2 := Aside0.mk (HX.out.set hg (by omega) y HY.out)
          exact ⟨⟨q + 1, y + 1, by omega, ⟨by rw [HY.out]; omega⟩, rfl, by go_num, HX2⟩, by simp [intOf]; omega⟩
        · obtain rfl : q = 2 := by omega
          go_wp2_with fail
          exact ⟨⟨k + 1, y, by omega, ⟨by rw [HY.out]; omega⟩, rfl, by go_num, ⟨by rw [show (k + 1) * 2 = k * 2 + 2 by omega]; exact HX.out⟩⟩, by simp [intOf]; omega⟩
    · obtain rfl : k = n := by omega
      go_wp2_with fail
      go_ret
      exact ⟨by rw [HZ.out]; rfl, HX.out⟩
set_option maxHeartbeats 800000 in
set_option maxRecDepth 100000 in
theorem held_pos (g : Nat) (t : TypeId) (c n cap : Nat) (hm : (n : Int) ≤ 1099511627776) (k0 : Int) (hk0 : 0 ≤ k0 ∧ k0 ≤ 1099511627776) (w0 w : World) (h : Mk w0 w w g t (n * 2) (n * 2) cap k0) :
    Calls Try.prog 17 #[.slice (some ⟨g, 0, none⟩) n c, .int .i64 k0] w fun e w' => e = .returned (.int .i64 (k0 + (n : Int) * 2)) ∧ Drawn0 w w' := by
  have HX := Aside0.mk (show Mk w0 w w g t (n * 2) (n * 2) cap k0 ∧ Drawn0 w w from ⟨h, Drawn0.refl _⟩)
  clear h
  go_enter Try.func17, Try.ntmps17
  go_wp2
  go_loopw [1, 5] (fun kv i w' => ∃ (k : Nat) (z : Int), k ≤ n ∧ Aside0 (z = k0 + (k : Int) * 2) ∧ kv = .int .i64 z ∧ i = .int .i64 k ∧ Aside0 (Mk w0 w w' g t (n * 2) (n * 2) cap k0 ∧ Drawn0 w w')) (fun kv i w' => n - (intOf i).toNat)
  case atStart => exact ⟨0, k0, by omega, ⟨by omega⟩, rfl, rfl, HX⟩
  case round =>
    clear HX
    obtain ⟨k, z, hk, HZ, rfl, rfl, HX⟩ := hrel
    by_cases hlt : k < n
    · have lkI : (k : Int) < (n : Int) := by omega
      have hw : IntKind.i64.wrap ((k : Int) + 1) = (k : Int) + 1 := by rw [i64_w]; unfold wrap64; omega
      go_wp2_with fail
      go_loopw [1, 6] (fun kv j w' => ∃ (q : Nat) (y : Int), q ≤ 2 ∧ Aside0 (y = k0 + ((k * 2 + q : Nat) : Int)) ∧ kv = .int .i64 y ∧ j = .int .i64 q ∧ Aside0 (Mk w0 w w' g t (n * 2) (n * 2) cap k0 ∧ Drawn0 w w')) (fun kv j w' => 2 - (intOf j).toNat)
      case atStart => exact ⟨0, z, by omega, ⟨by rw [HZ.out]; omega⟩, rfl, rfl, HX⟩
      case round =>
        clear HX
        obtain ⟨q, y, hq, HY, rfl, rfl, HX⟩ := hrel
        by_cases hlq : q < 2
        · have lqI : (q : Int) < 2 := by omega
          have hy := HY.out
          have hw2 : IntKind.i64.wrap (y + 1) = y + 1 := by rw [i64_w]; unfold wrap64; omega
          have hw3 : IntKind.i64.wrap ((q : Int) + 1) = (q : Int) + 1 := by rw [i64_w]; unfold wrap64; omega
          clear hy
          have c1 := HX.out.1.held (k * 2 + q) (by omega)
          rw [← HY.out] at c1
          go_wp2_with fail
          try (go_quiet (fail))
          go_wp2_with fail
          exact ⟨⟨q + 1, y + 1, by omega, ⟨by rw [HY.out]; omega⟩, rfl, by go_num, (by first | exact HX | exact ⟨HX.out.1.drewN _, HX.out.2.step _⟩)⟩, by simp [intOf]; omega⟩
        · obtain rfl : q = 2 := by omega
          go_wp2_with fail
          exact ⟨⟨k + 1, y, by omega, ⟨by rw [HY.out]; omega⟩, rfl, by go_num, HX⟩, by simp [intOf]; omega⟩
    · obtain rfl : k = n := by omega
      go_wp2_with fail
      go_ret
      exact ⟨by rw [HZ.out]; rfl, HX.out.2⟩
theorem mk_start {w0 w : World} {base : Nat} {ok : Nat → Prop} {v : Value} {xs : List (Int × Int)} {t : Nat} (k0 : Int) (h : K2.R t w base ok v xs) (hp : 0 < xs.length) (hb : Below w0.heap.size w0 w) :
    ∃ g cap, v = .slice (some ⟨g, 0, none⟩) xs.length cap ∧ base ≤ g ∧ ok g ∧ xs.length ≤ cap ∧ cap ≤ maxLen ∧ Mk w0 w w g t (xs.length * 2) 0 cap k0 := by
  have h0 := h.1
  obtain ⟨g, cap, rfl, hg, hl, hok, hn, hc, cs, h1, h2⟩ := pr_of_R h hp
  obtain ⟨-, inner, ho, hr⟩ := h
  rcases ho.2 with ⟨he, _⟩ | ⟨g', cap', cur, he, hg', hh, k1, k2, k3, k4⟩
  · exact absurd he (by simp)
  · injection he with e1 _ e2
    injection e1 with e1
    injection e1 with e1
    subst e1 e2
    obtain rfl : cs = cur := by
      rw [h1] at hh
      injection hh with hh
      injection hh
    refine ⟨g, cap, rfl, hg, hok, hn, k2, hb, Nat.le_refl _, fun _ _ _ => rfl, cs, h1, k3, fun p hp' => ?_, fun p hp' => absurd hp' (by omega)⟩
    obtain ⟨s1, s2, s3⟩ := h2 (p / 2) _ (List.getElem?_eq_getElem (by omega))
    rcases Nat.mod_two_eq_zero_or_one p with e | e
    · exact ⟨_, by rw [show p = p / 2 * 2 by omega]; exact s2⟩
    · exact ⟨_, by rw [show p = p / 2 * 2 + 1 by omega]; exact s3⟩
theorem R_of_mk {w0 w w' : World} {base : Nat} {ok : Nat → Prop} {g n cap : Nat} {t : Nat} {k0 : Int} (h : Mk w0 w w' g t (n * 2) (n * 2) cap k0) (hg : base ≤ g) (hn : n ≤ cap) (hc : cap ≤ maxLen) (hok : ok g) :
    K2.R t w' base ok (.slice (some ⟨g, 0, none⟩) n cap) (marks n k0) := by
  obtain ⟨cs, h1, h2, h3, h4⟩ := h.cs
  have hll : (cs.toList.take (n * 2)).length = n * 2 := by rw [List.length_take, Array.length_toList]; omega
  refine ⟨fun k hk => ?_, cs.toList.take (n * 2), ⟨by rw [marks_len]; exact hll, .inr ⟨g, cap, cs, by rw [marks_len], hg, h1, by rw [marks_len]; exact hn, hc, h2, by rw [marks_len]; rfl⟩⟩, by rw [marks_len]; exact hll, fun j p hj => ?_⟩
  · have : g = k := by simpa [Value.ownBlock] using hk
    exact this ▸ hok
  · have hjn : j < n := by have := (List.getElem?_eq_some_iff.1 hj).1; rwa [marks_len] at this
    rw [marks_at n k0 j hjn] at hj
    injection hj with hj
    subst hj
    refine ⟨[.int .i64 (k0 + ((j * 2 : Nat) : Int))], [.int .i64 (k0 + ((j * 2 + 1 : Nat) : Int))], ?_, rfl, rfl⟩
    apply List.ext_getElem?
    intro i
    rw [List.getElem?_take, show K2.sz = 2 from rfl]
    by_cases hi : i < 2
    · rw [if_pos hi, List.getElem?_drop, List.getElem?_take, if_pos (by omega), Array.getElem?_toList, h4 _ (by omega)]
      match i, hi with
      | 0, _ => rfl
      | 1, _ => rfl
    · rw [if_neg hi, List.getElem?_eq_none (by simp; omega)]
theorem mk_of_R {w0 w : World} {base : Nat} {ok : Nat → Prop} {v : Value} {n : Nat} {t : Nat} {k0 : Int} (h : K2.R t w base ok v (marks n k0)) (hp : 0 < n) (hb : Below w0.heap.size w0 w) :
    ∃ g cap, v = .slice (some ⟨g, 0, none⟩) n cap ∧ Mk w0 w w g t (n * 2) (n * 2) cap k0 := by
  obtain ⟨g, cap, rfl, hg, hok, hn, hc, hm⟩ := mk_start k0 h (by rw [marks_len]; exact hp) hb
  obtain ⟨g', cap', he, _, _, _, _, _, cs, h1, h2⟩ := pr_of_R h (by rw [marks_len]; exact hp)
  injection he with e1 _ e2
  injection e1 with e1
  injection e1 with e1
  subst e1 e2
  rw [marks_len] at hm ⊢
  refine ⟨g, cap, rfl, hm.hb, hm.hs, hm.keep, ?_⟩
  obtain ⟨cs', q1, q2, q3, q4⟩ := hm.cs
  refine ⟨cs', q1, q2, q3, fun p hp' => ?_⟩
  obtain rfl : cs = cs' := by
    rw [h1] at q1
    injection q1 with q1
    injection q1
  obtain ⟨s1, s2, s3⟩ := h2 (p / 2) _ (marks_at n k0 (p / 2) (by omega))
  rcases Nat.mod_two_eq_zero_or_one p with e | e
  · rw [show p / 2 * 2 = p by omega] at s2
    exact s2
  · rw [show p / 2 * 2 + 1 = p by omega] at s3
    exact s3
set_option maxHeartbeats 400000 in
theorem mark_none (A : Option Addr) (c : Nat) (k0 : Int) (w : World) :
    Calls Try.prog 16 #[.slice A 0 c, .int .i64 k0] w fun e w' => e = .returned (.int .i64 k0) ∧ w = w' := by
  go_enter Try.func16, Try.ntmps16
  go_wp2
  go_loop [1, 5] (fun kv i => kv = .int .i64 k0 ∧ i = .int .i64 0) (fun _ _ => 0)
  case atStart => exact ⟨rfl, rfl⟩
  case round =>
    obtain ⟨rfl, rfl⟩ := hrel
    go_wp2_with fail
    go_ret
    exact ⟨rfl, rfl⟩
set_option maxHeartbeats 400000 in
theorem held_none (A : Option Addr) (c : Nat) (k0 : Int) (w : World) :
    Calls Try.prog 17 #[.slice A 0 c, .int .i64 k0] w fun e w' => e = .returned (.int .i64 k0) ∧ w = w' := by
  go_enter Try.func17, Try.ntmps17
  go_wp2
  go_loop [1, 5] (fun kv i => kv = .int .i64 k0 ∧ i = .int .i64 0) (fun _ _ => 0)
  case atStart => exact ⟨rfl, rfl⟩
  case round =>
    obtain ⟨rfl, rfl⟩ := hrel
    go_wp2_with fail
    go_ret
    exact ⟨rfl, rfl⟩
/-- A row of the call's own is marked. -/
theorem mark_R {t : Nat} (xs : List (Int × Int)) (hm : (xs.length : Int) ≤ 1099511627776) (k0 : Int) (hk0 : 0 ≤ k0 ∧ k0 ≤ 1099511627776) (w0 w : World) (ok : Nat → Prop) (v : Value) (hR : K2.R t w w0.heap.size ok v xs) (hb : Below w0.heap.size w0 w) :
    Calls Try.prog 16 #[v, .int .i64 k0] w fun e w' => e = .returned (.int .i64 (k0 + (xs.length : Int) * 2)) ∧ K2.R t w' w0.heap.size (fun k => ok k ∨ w.heap.size ≤ k) v (marks xs.length k0) ∧ Below w0.heap.size w0 w' ∧ Kept w w' ok := by
  rcases Nat.eq_zero_or_pos xs.length with h0 | h0
  · obtain rfl := List.eq_nil_of_length_eq_zero h0
    obtain ⟨A, c, rfl⟩ := Kd.R_slice hR
    refine (mark_none A c k0 w).mono ?_
    rintro e w' ⟨rfl, rfl⟩
    exact ⟨by simp, Kd.R_mono hR (fun _ hk => .inl hk), hb, Kept.refl _ _⟩
  · obtain ⟨g, cap, rfl, hg, hok, hn, hc, hmk⟩ := mk_start k0 hR h0 hb
    refine (mark_pos g t cap xs.length cap hm k0 hk0 w0 w hg hmk).mono ?_
    rintro e w' ⟨rfl, hmk'⟩
    exact ⟨rfl, R_of_mk hmk' hg hn hc (.inl hok), hmk'.hb, hmk'.hs, fun i hi hne => hmk'.keep i hi (fun e => hne (e ▸ hok))⟩
/-- A marked row holds its marks. -/
theorem held_R {t : Nat} (n : Nat) (hm : (n : Int) ≤ 1099511627776) (k0 : Int) (hk0 : 0 ≤ k0 ∧ k0 ≤ 1099511627776) (w0 w : World) (ok : Nat → Prop) (v : Value) (hR : K2.R t w w0.heap.size ok v (marks n k0)) (hb : Below w0.heap.size w0 w) :
    Calls Try.prog 17 #[v, .int .i64 k0] w fun e w' => e = .returned (.int .i64 (k0 + (n : Int) * 2)) ∧ K2.R t w' w0.heap.size (fun k => ok k ∨ w.heap.size ≤ k) v (marks n k0) ∧ Below w0.heap.size w0 w' ∧ Kept w w' ok := by
  rcases Nat.eq_zero_or_pos n with rfl | h0
  · obtain ⟨A, c, rfl⟩ := Kd.R_slice hR
    refine (held_none A c k0 w).mono ?_
    rintro e w' ⟨rfl, rfl⟩
    exact ⟨by simp, Kd.R_mono hR (fun _ hk => .inl hk), hb, Kept.refl _ _⟩
  · have hR' := Kd.R_mono (ok' := fun k => ok k ∨ w.heap.size ≤ k) hR (fun _ hk => .inl hk)
    obtain ⟨g, cap, rfl, hmk⟩ := mk_of_R hR h0 hb
    refine (held_pos g t cap n cap hm k0 hk0 w0 w hmk).mono ?_
    rintro e w' ⟨rfl, ⟨nd, rfl⟩⟩
    exact ⟨rfl, Kd.R_drewN hR' nd, pw_below_drewN hb nd, Kept.drewN (Kept.refl _ _) nd⟩
/-- The same row, told by a kind that spells its pairs otherwise. -/
theorem R_iso {α : Type} (f : α → Int × Int) {t : Nat} {w : World} {base : Nat} {ok : Nat → Prop} {v : Value} {xs : List α} : (Kd.iso K2 f).R t w base ok v xs ↔ K2.R t w base ok v (xs.map f) := by
  constructor
  · rintro ⟨h0, inner, ho, h1, h2⟩
    refine ⟨h0, inner, by rw [List.length_map]; exact ho, by rw [List.length_map]; exact h1, fun j p hj => ?_⟩
    rw [List.getElem?_map] at hj
    obtain ⟨x, hx, rfl⟩ := Option.map_eq_some_iff.1 hj
    exact h2 j x hx
  · rintro ⟨h0, inner, ho, h1, h2⟩
    rw [List.length_map] at ho h1
    exact ⟨h0, inner, ho, h1, fun j p hj => h2 j (f p) (by rw [List.getElem?_map, hj]; rfl)⟩
end Go.Proofs.Yteinllalhiflcaa.Pairs
