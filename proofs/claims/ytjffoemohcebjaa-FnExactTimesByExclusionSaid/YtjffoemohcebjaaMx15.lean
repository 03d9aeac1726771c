/- SwapRows, of both programs. No condition but the lengths and the kinds' bounds. -/
import Derived.Test.YtjffoemohcebjaaMx14
import Derived.StillTailTactics
set_option linter.unusedVariables false
set_option linter.unusedSimpArgs false
namespace Go.Proofs.Ytjffoemohcebjaa.Mx
open Go.RowKit Go.Proofs.Ytjffoemohcebjaa.Arr Go.Proofs.YtjffoemohcebjaaW.PrintWords Go.Proofs.YtjffoemohcebjaaW.PrintLast

theorem wpStill_load_sub {P : Program} {ops : Array Oper} {w : World} {Q : Act → Prop} {rest : List Oper} {o : Oper} {a : Act} (hgd : o.guard = none) (ty : TypeId) (x : Operand) (ho : o.op = .load ty x)
    (g off : Nat) (hx : a.eval x = .pointer (some ⟨g, off, none⟩)) (t : TypeId) (cs : Array Value) (fr : Nat × Nat) (d : TypeDesc) (n : Nat) (hg : w.heap[g]? = some (.cells cs t fr))
    (hu : P.underlying ty = some d) (hd : (match d with | .struct _ | .array _ _ => true | _ => false) = true) (hi : (P.info? ty).map (·.size) = some n) (hn : off + n ≤ cs.size) (part : Array Value) (hp : cs.extract off (off + n) = part)
    (h : wpStill P ops w Q rest (a.put o.dst (.agg part))) : wpStill P ops w Q (o :: rest) a := by
  subst hp
  refine wpStill_step (fun K hK => ?_)
  have hw : Region.wanted o (yielded ops a.tmps) = true := by unfold Region.wanted; rw [hgd]
  rw [if_pos hw]
  unfold Oper.still execOp
  simp only [ho, hx, Instr.loadAt, Instr.sureAddr, Sem.run_bind, Sem.run_pure, Result.andThen_ok, run_loadVar_sub w g off n t ty cs fr d hg hu hd hi hn]
  exact ⟨rfl, hK _ h⟩
theorem mat_at (r c : Int) (l : List Int) (j : Nat) : (mat r c l)[j]? = if j = 0 then some (.int .i8 r) else if j = 1 then some (.int .i8 c) else (l[j - 2]?).map (Value.int .u16) := by
  match j with
  | 0 => exact mat_0 r c l
  | 1 => exact mat_1 r c l
  | j + 2 => rw [if_neg (by omega), if_neg (by omega), Nat.add_comm, mat_2]; simp
def rowSet (l : List Int) (k : Nat) (R : List Int) : List Int := l.take (k * 6) ++ R ++ l.drop (k * 6 + 6)
theorem rowSet_len (l : List Int) (k : Nat) (R : List Int) (hl : l.length = 36) (hR : R.length = 6) (hk : k < 6) : (rowSet l k R).length = 36 := by simp [rowSet]; omega
theorem mat_row (r c : Int) (l : List Int) (hl : l.length = 36) (k : Nat) (hk : k < 6) : (mat r c l).extract (2 + k * 6) (2 + k * 6 + 6) = u16s (row l k) := by
  apply Array.ext_getElem?
  intro i
  rw [Array.getElem?_extract, mat_size r c l hl, u16s_get]
  unfold row
  rw [List.getElem?_take, List.getElem?_drop]
  by_cases h : i < 6
  · rw [if_pos (by omega), if_pos h, Nat.add_assoc, mat_2, Nat.mul_comm]
  · rw [if_neg (by omega), if_neg h]
    rfl
theorem mat_put_row (r c : Int) (l R : List Int) (hl : l.length = 36) (hR : R.length = 6) (k : Nat) (hk : k < 6) : putAt (mat r c l) (2 + k * 6) (u16s R).toList = mat r c (rowSet l k R) := by
  have hs : (u16s R).toList.length = 6 := by simp [u16s, hR]
  apply Array.ext_getElem?
  intro i
  rw [putAt_get _ _ _ _ (by rw [hs, mat_size r c l hl]; omega), hs, mat_at, mat_at]
  unfold rowSet
  by_cases h0 : i = 0
  · rw [if_neg (by omega), if_pos h0, if_pos h0]
  · by_cases h1 : i = 1
    · rw [if_neg (by omega), if_neg h0, if_pos h1, if_neg h0, if_pos h1]
    · rw [if_neg h0, if_neg h1, if_neg h0, if_neg h1]
      by_cases h : 2 + k * 6 ≤ i ∧ i < 2 + k * 6 + 6
      · rw [if_pos h, Array.getElem?_toList, u16s_get, List.getElem?_append_left (by simp; omega), List.getElem?_append_right (by simp; omega)]
        congr 2
        simp
        omega
      · rw [if_neg h]
        congr 1
        by_cases h2 : i - 2 < k * 6
        · rw [List.getElem?_append_left (by simp; omega), List.getElem?_append_left (by simp; omega), List.getElem?_take_of_lt h2]
        · rw [List.getElem?_append_right (by simp; omega), List.getElem?_drop]
          congr 1
          simp
          omega
def swapL (l : List Int) (a b : Nat) : List Int := rowSet (rowSet l a (row l b)) b (row l a)
theorem swapL_len (l : List Int) (hl : l.length = 36) (a b : Nat) (ha : a < 6) (hb : b < 6) : (swapL l a b).length = 36 :=
  rowSet_len _ _ _ (rowSet_len _ _ _ hl (row_len l hl b hb) ha) (row_len l hl a ha) hb
/-- One block turned, all others kept. -/
structure Tn (w w' : World) (b : Nat) (o : Obj) : Prop where
  hg : w'.heap[b]? = some o
  hk : ∀ k, k < w.heap.size → k ≠ b → w'.heap[k]? = w.heap[k]?
  hb : ∀ N w0, Below N w0 w → N ≤ b → b < w.heap.size → Below N w0 w'
set_option maxHeartbeats 1600000 in
set_option maxRecDepth 100000 in
theorem l02Swap (g : Nat) (r c : Int) (l : List Int) (hl : l.length = 36) (a b : Nat) (ha : a < 6) (hb : b < 6) (w : World) (hg : w.heap[g]? = some (.cells (mat r c l) 33)) :
    Calls Try.prog 41 #[.pointer (some ⟨g, 0, none⟩), .int .i64 a, .int .i64 b] w fun e w' => e = .returned (.tuple #[]) ∧ Tn w w' g (.cells (mat r c (swapL l a b)) 33) := by
  have hlt : g < w.heap.size := (Array.getElem?_eq_some_iff.1 hg).1
  have HL := Aside0.mk hl
  have HG := Aside0.mk hg
  have RA := Aside0.mk (row_len l hl a ha)
  have RB := Aside0.mk (row_len l hl b hb)
  have ZA := Aside0.mk ((u16s_size (row l a)).trans RA.out)
  have ZB := Aside0.mk ((u16s_size (row l b)).trans RB.out)
  have EA := Aside0.mk (mat_row r c l hl a ha)
  have EB := Aside0.mk (mat_row r c l hl b hb)
  have NA := Aside0.mk (show 2 + a * 6 + 6 ≤ (mat r c l).size by rw [mat_size r c l hl]; omega)
  have NB := Aside0.mk (show 2 + b * 6 + 6 ≤ (mat r c l).size by rw [mat_size r c l hl]; omega)
  have P1 := Aside0.mk (mat_put_row r c l (row l b) hl RB.out a ha)
  have P2 := Aside0.mk (mat_put_row r c (rowSet l a (row l b)) (row l a) (rowSet_len _ _ _ hl RB.out ha) RA.out b hb)
  have N1 := Aside0.mk (show 2 + a * 6 + (u16s (row l b)).size ≤ (mat r c l).size by rw [mat_size r c l hl, ZB.out]; omega)
  have N2 := Aside0.mk (show 2 + b * 6 + (u16s (row l a)).size ≤ (mat r c (rowSet l a (row l b))).size by rw [mat_size r c _ (rowSet_len _ _ _ hl RB.out ha), ZA.out]; omega)
  clear hl hg
  go_enter Try.func41, Try.ntmps41
  go_wp2_with (first
    | (refine wpList_load_sub rfl 30 _ rfl g (2 + a * 6) rfl 33 _ (0, 0) _ 6 HG.out Try.underlying30 rfl size30 NA.out _ EA.out ?_)
    | (refine wpList_store_row rfl 30 _ _ rfl w.heap.size _ rfl rfl 30 _ (heap_at _ _ _ rfl) (size30.trans (congrArg some ZA.out.symm)) (Eq.trans rfl ZA.out.symm) (u16s_all _) ?_))
  rw [show ∀ (q : Act) (v : Value), q.put none v = q from fun _ _ => rfl]
  have G1 := Aside0.mk ((setRow_other (w.alloc (.cells (u16s [0, 0, 0, 0, 0, 0]) 30)) w.heap.size g (u16s (row l a)) (by omega)).trans ((heap_lo w _ g hlt).trans HG.out))
  have G2 := Aside0.mk (heap_setRow_same (cs := u16s (row l a)) (heap_at w (.cells (u16s [0, 0, 0, 0, 0, 0]) 30) _ rfl))
  have K1 := Aside0.mk (fun (k : Nat) (hk : k < w.heap.size) => (setRow_other (w.alloc (.cells (u16s [0, 0, 0, 0, 0, 0]) 30)) w.heap.size k (u16s (row l a)) (by omega)).trans (heap_lo w _ k hk))
  have B1 := Aside0.mk (fun (N : Nat) (w0 : World) (h : Below N w0 w) (hN : N ≤ w.heap.size) => below_setRow (h.alloc hN (.cells (u16s [0, 0, 0, 0, 0, 0]) 30)) hN (u16s (row l a)))
  change Code.wp _ _ _ _ ((w.alloc (.cells (u16s [0, 0, 0, 0, 0, 0]) 30)).setRow w.heap.size (u16s (row l a)))
  generalize (w.alloc (.cells (u16s [0, 0, 0, 0, 0, 0]) 30)).setRow w.heap.size (u16s (row l a)) = W1 at G1 G2 K1 B1 ⊢
  have ia : (a : Int) < 6 := by omega
  have ib : (b : Int) < 6 := by omega
  have ia0 : (0 : Int) ≤ (a : Int) := by omega
  have ib0 : (0 : Int) ≤ (b : Int) := by omega
  refine wp_region_still_tail 11 (by kernel_rfl) (by kernel_rfl) ?_
  simp only [List.take_succ_cons, List.take_zero, List.drop_succ_cons, List.drop_zero]
  repeat (first
    | (refine wpStill_load_sub rfl 30 _ rfl g (2 + b * 6) rfl 33 _ (0, 0) _ 6 G1.out Try.underlying30 rfl size30 NB.out _ EB.out ?_)
    | still_step)
  refine wpStill_nil ?_
  change wpList _ _ _ _ _ W1.drew
  go_wp2_with (refine wpList_store_sub rfl 30 _ _ rfl g (2 + a * 6) _ rfl rfl 33 _ G1.out (size30.trans (congrArg some ZB.out.symm)) N1.out (u16s_all _) _ P1.out ?_)
  rw [show ∀ (q : Act) (v : Value), q.put none v = q from fun _ _ => rfl]
  have G3 := Aside0.mk (heap_setRow_same (w := W1.drew) (cs := mat r c (rowSet l a (row l b))) G1.out)
  have G4 := Aside0.mk ((setRow_other W1.drew g w.heap.size (mat r c (rowSet l a (row l b))) (by omega)).trans G2.out)
  have K2 := Aside0.mk (fun (k : Nat) (hk : k < w.heap.size) (hne : k ≠ g) => (setRow_other W1.drew g k (mat r c (rowSet l a (row l b))) hne).trans (K1.out k hk))
  have B2 := Aside0.mk (fun (N : Nat) (w0 : World) (h : Below N w0 w) (hN : N ≤ w.heap.size) (hg2 : N ≤ g) => below_setRow (B1.out N w0 h hN).drew hg2 (mat r c (rowSet l a (row l b))))
  clear K1 B1 G1 G2
  generalize W1.drew.setRow g (mat r c (rowSet l a (row l b))) = W2 at G3 G4 K2 B2 ⊢
  refine wp_region_still_tail 6 (by kernel_rfl) (by kernel_rfl) ?_
  simp only [List.take_succ_cons, List.take_zero, List.drop_succ_cons, List.drop_zero]
  repeat (first
    | (refine wpStill_load_sub rfl 30 _ rfl w.heap.size 0 rfl 30 _ (0, 0) _ 6 G4.out Try.underlying30 rfl size30 (by rw [ZA.out]; omega) _ (extract_all ZA.out) ?_)
    | still_step)
  refine wpStill_nil ?_
  change wpList _ _ _ _ _ W2.drew
  go_wp2_with (refine wpList_store_sub rfl 30 _ _ rfl g (2 + b * 6) _ rfl rfl 33 _ G3.out (size30.trans (congrArg some ZA.out.symm)) N2.out (u16s_all _) _ P2.out ?_)
  go_end0
  exact ⟨rfl, heap_setRow_same (w := W2.drew) G3.out, fun k hk hne => (setRow_other W2.drew g k _ hne).trans (K2.out k hk hne), fun N w0 h hN hlt2 => below_setRow (B2.out N w0 h (by omega) hN).drew hN _⟩
end Go.Proofs.Ytjffoemohcebjaa.Mx
