/- SwapRows, of both programs, and its law. No condition but the lengths and the kinds' bounds. -/
import Derived.Test.YtjffoemohcebjaaMx15
import Derived.OrdersHeld
set_option linter.unusedVariables false
set_option linter.unusedSimpArgs false
namespace Go.Proofs.Ytjffoemohcebjaa.Mx
open Go.RowKit Go.Proofs.Ytjffoemohcebjaa.Arr Go.Proofs.YtjffoemohcebjaaW.PrintWords Go.Proofs.YtjffoemohcebjaaW.PrintLast

theorem wpOp_load_sub {P : Program} {ops : Array Oper} {Q : Exit → Act → World → Prop} {K : Act → World → Prop} {a : Act} {w : World} (i : Nat) (o : Oper) (hi : ops[i]? = some o) (hgd : o.guard = none) (dst : Option Tmp) (hdst : o.dst = dst) (ty : TypeId) (x : Operand) (ho : o.op = .load ty x)
    (g off : Nat) (hx : a.eval x = .pointer (some ⟨g, off, none⟩)) (t : TypeId) (cs : Array Value) (fr : Nat × Nat) (d : TypeDesc) (n : Nat) (hg : w.heap[g]? = some (.cells cs t fr))
    (hu : P.underlying ty = some d) (hd : (match d with | .struct _ | .array _ _ => true | _ => false) = true) (hs : (P.info? ty).map (·.size) = some n) (hn : off + n ≤ cs.size) (part : Array Value) (hp : cs.extract off (off + n) = part)
    (h : K (a.put dst (.agg part)) w) : wpOp P ops Q i K a w := by
  subst hp
  subst hdst
  have hw : Region.wanted o (yielded ops a.tmps) = true := by unfold Region.wanted; rw [hgd]
  unfold wpOp
  simp only [hi, hw, if_true]
  refine .inl ?_
  unfold Oper.wp execOp
  simp only [ho, hx, Instr.loadAt, Instr.sureAddr, Sem.run_bind, Sem.run_pure, Result.andThen_ok, run_loadVar_sub w g off n t ty cs fr d hg hu hd hs hn]
  exact h
theorem wpOp_store_sub {P : Program} {ops : Array Oper} {Q : Exit → Act → World → Prop} {K : Act → World → Prop} {a : Act} {w : World} (i : Nat) (o : Oper) (hi : ops[i]? = some o) (hgd : o.guard = none) (dst : Option Tmp) (hdst : o.dst = dst) (ty : TypeId) (x y : Operand) (ho : o.op = .store ty x y)
    (g off : Nat) (cells : Array Value) (hx : a.eval x = .pointer (some ⟨g, off, none⟩)) (hy : a.eval y = .agg cells)
    (t : TypeId) (old : Array Value) (hg : w.heap[g]? = some (.cells old t (0, 0))) (hs : (P.info? ty).map (·.size) = some cells.size)
    (hold : off + cells.size ≤ old.size) (h1 : cells.all (·.oneCell') = true) (new : Array Value) (hp : putAt old off cells.toList = new)
    (h : K (a.put dst undef) (w.setRow g new)) : wpOp P ops Q i K a w := by
  subst hp
  subst hdst
  have hw : Region.wanted o (yielded ops a.tmps) = true := by unfold Region.wanted; rw [hgd]
  unfold wpOp
  simp only [hi, hw, if_true]
  refine .inl ?_
  unfold Oper.wp execOp
  simp only [ho, hx, hy, Instr.storeAt, Instr.sureAddr, Sem.run_bind, Sem.run_pure, Result.andThen_ok, run_storeVar_sub w g off t ty old cells hg hs hold h1]
  exact h
theorem wpAnyH_takeD {P : Program} {ops : Array Oper} {Q : Exit → Act → World → Prop} {md : Region.Mode} {S : World → Prop} {i : Nat} {oi : Oper} {v : Value} {fuel : Nat} {listed : Array Bool} {a : Act} {w : World} (dst : Option Tmp) (hi : ops[i]? = some oi) (hdst : oi.dst = dst)
    (hs : Region.noSelect ops = true) (hf : Region.free md ops listed i = true) (hr : (Region.ready md ops listed).contains i = true)
    (hQ : ∀ c a w, Q (.panic c) (a.put dst v) w → Q (.panic c) a w) (hy : YieldsIf P ops S oi v a) (hS : S w)
    (h : wpAnyH P md ops Q S fuel (listed.setIfInBounds i true) (a.put dst v) w) : wpAnyH P md ops Q S (fuel + 1) listed a w := by
  subst hdst
  exact wpAnyH_take hi hs hf hr hQ hy hS h
set_option maxHeartbeats 1600000 in
set_option maxRecDepth 100000 in
theorem implSwap_yes (r c : Int) (l : List Int) (hl : l.length = 36) (hb : I8 r c) (a b : Nat) (ha : a < 6) (hb6 : b < 6) (hv : rowE r c l a b = 0) (w : World) :
    Calls Try.prog 24 #[.agg (mat r c l), .int .i64 a, .int .i64 b] w fun e w' => e = .returned (.tuple #[.agg (mat r c (swapL l a b)), .int .i64 0]) ∧ Below w.heap.size w w' := by
  have HL := Aside0.mk hl
  have HI := Aside0.mk hb
  have HV := Aside0.mk hv
  have HX := Aside0.mk (Bx2.start w (.cells (mat r c l) 33) (.cells (mat 0 0 z36) 33))
  have HM := Aside0.mk (mat_size r c l hl)
  have HT := Aside0.mk (mat_size r c (swapL l a b) (swapL_len l hl a b ha hb6))
  have hz := zero33
  have RA := Aside0.mk (row_len l hl a ha)
  have RB := Aside0.mk (row_len l hl b hb6)
  have ZA := Aside0.mk ((u16s_size (row l a)).trans RA.out)
  have ZB := Aside0.mk ((u16s_size (row l b)).trans RB.out)
  have EA := Aside0.mk (mat_row r c l hl a ha)
  have EB := Aside0.mk (mat_row r c l hl b hb6)
  have NA := Aside0.mk (show 2 + a * 6 + 6 ≤ (mat r c l).size by rw [mat_size r c l hl]; omega)
  have NB := Aside0.mk (show 2 + b * 6 + 6 ≤ (mat r c l).size by rw [mat_size r c l hl]; omega)
  have P1 := Aside0.mk (mat_put_row r c l (row l b) hl RB.out a ha)
  have P2 := Aside0.mk (mat_put_row r c (rowSet l a (row l b)) (row l a) (rowSet_len _ _ _ hl RB.out ha) RA.out b hb6)
  have N1 := Aside0.mk (show 2 + a * 6 + (u16s (row l b)).size ≤ (mat r c l).size by rw [mat_size r c l hl, ZB.out]; omega)
  have N2 := Aside0.mk (show 2 + b * 6 + (u16s (row l a)).size ≤ (mat r c (rowSet l a (row l b))).size by rw [mat_size r c _ (rowSet_len _ _ _ hl RB.out ha), ZA.out]; omega)
  clear hl hb hv
  go_enter Try.func24, Try.ntmps24
  go_wp2_with (first
    | (refine wpList_load_row rfl 33 _ rfl w.heap.size rfl 33 _ (0, 0) _ HX.out.h1 Try.underlying33 rfl (size33.trans (congrArg some HM.out.symm)) ?_)
    | (go_at_call 42; refine (rowCode r c l HL.out HI.out a b _).mono ?_; rw [HV.out]; rintro e w2 ⟨rfl, hb2⟩; replace HX := Aside0.mk (HX.out.step hb2); clear hb2))
  have ia : (a : Int) < 6 := by omega
  have ib : (b : Int) < 6 := by omega
  have ia0 : (0 : Int) ≤ (a : Int) := by omega
  have ib0 : (0 : Int) ≤ (b : Int) := by omega
  refine wp_region_held (S := fun _ => True) (by kernel_rfl) ?_
  change wpAnyH _ _ _ _ _ _ _ _ w2.drew
  refine wpAnyH_takeD (i := 0) (v := .int .i64 a) (some 17) rfl rfl (by kernel_rfl) (by kernel_rfl) (by kernel_rfl) (fun _ _ _ h => h) (.inl ⟨rfl, fun _ _ => by go_simp⟩) trivial ?_
  simp only [Act.put, List.setIfInBounds_toArray, List.set_cons_zero, List.set_cons_succ]
  refine wpAnyH_takeD (i := 1) (v := .int .i64 b) (some 18) rfl rfl (by kernel_rfl) (by kernel_rfl) (by kernel_rfl) (fun _ _ _ h => h) (.inl ⟨rfl, fun _ _ => by go_simp⟩) trivial ?_
  simp only [Act.put, List.setIfInBounds_toArray, List.set_cons_zero, List.set_cons_succ]
  refine wpAnyH_takeD (i := 2) (v := .int .i64 b) (some 19) rfl rfl (by kernel_rfl) (by kernel_rfl) (by kernel_rfl) (fun _ _ _ h => h) (.inl ⟨rfl, fun _ _ => by go_simp⟩) trivial ?_
  simp only [Act.put, List.setIfInBounds_toArray, List.set_cons_zero, List.set_cons_succ]
  refine wpAnyH_takeD (i := 3) (v := .pointer (some ⟨w.heap.size, 2, none⟩)) (some 20) rfl rfl (by kernel_rfl) (by kernel_rfl) (by kernel_rfl) (fun _ _ _ h => h) (.inl ⟨rfl, fun _ _ => by go_simp⟩) trivial ?_
  simp only [Act.put, List.setIfInBounds_toArray, List.set_cons_zero, List.set_cons_succ]
  refine wpAnyH_takeD (i := 4) (v := .pointer (some ⟨w.heap.size, 2 + b * 6, none⟩)) (some 21) rfl rfl (by kernel_rfl) (by kernel_rfl) (by kernel_rfl) (fun _ _ _ h => h) (.inl ⟨rfl, fun _ _ => by go_simp⟩) trivial ?_
  simp only [Act.put, List.setIfInBounds_toArray, List.set_cons_zero, List.set_cons_succ]
  refine wpAnyH_takeD (i := 6) (v := .int .i64 a) (some 23) rfl rfl (by kernel_rfl) (by kernel_rfl) (by kernel_rfl) (fun _ _ _ h => h) (.inl ⟨rfl, fun _ _ => by go_simp⟩) trivial ?_
  simp only [Act.put, List.setIfInBounds_toArray, List.set_cons_zero, List.set_cons_succ]
  refine wpAnyH_takeD (i := 7) (v := .pointer (some ⟨w.heap.size, 2, none⟩)) (some 24) rfl rfl (by kernel_rfl) (by kernel_rfl) (by kernel_rfl) (fun _ _ _ h => h) (.inl ⟨rfl, fun _ _ => by go_simp⟩) trivial ?_
  simp only [Act.put, List.setIfInBounds_toArray, List.set_cons_zero, List.set_cons_succ]
  refine wpAnyH_takeD (i := 8) (v := .pointer (some ⟨w.heap.size, 2 + a * 6, none⟩)) (some 25) rfl rfl (by kernel_rfl) (by kernel_rfl) (by kernel_rfl) (fun _ _ _ h => h) (.inl ⟨rfl, fun _ _ => by go_simp⟩) trivial ?_
  simp only [Act.put, List.setIfInBounds_toArray, List.set_cons_zero, List.set_cons_succ]
  refine wpAnyH_takeD (i := 10) (v := .pointer (some ⟨w.heap.size, 2, none⟩)) (some 27) rfl rfl (by kernel_rfl) (by kernel_rfl) (by kernel_rfl) (fun _ _ _ h => h) (.inl ⟨rfl, fun _ _ => by go_simp⟩) trivial ?_
  simp only [Act.put, List.setIfInBounds_toArray, List.set_cons_zero, List.set_cons_succ]
  refine wpAnyH_takeD (i := 13) (v := .pointer (some ⟨w.heap.size, 2, none⟩)) (some 29) rfl rfl (by kernel_rfl) (by kernel_rfl) (by kernel_rfl) (fun _ _ _ h => h) (.inl ⟨rfl, fun _ _ => by go_simp⟩) trivial ?_
  simp only [Act.put, List.setIfInBounds_toArray, List.set_cons_zero, List.set_cons_succ]
  refine wpAnyH_all (rs := [5, 9]) (by kernel_rfl) (by simp) ?_
  intro i hi
  rcases List.mem_cons.1 hi with rfl | hi
  · (refine wpOp_load_sub 5 _ rfl rfl (some 22) rfl 30 (.tmp 21) rfl w.heap.size (2 + b * 6) rfl 33 _ (0, 0) _ 6 HX.out.h1 Try.underlying30 rfl size30 NB.out _ EB.out ?_)
    refine ⟨trivial, ?_⟩
    simp only [Act.put, List.setIfInBounds_toArray, List.set_cons_zero, List.set_cons_succ]
    (refine wpAnyH_all (rs := [9]) (by kernel_rfl) (by simp) ?_; intro i_ hi_; obtain rfl := List.mem_singleton.1 hi_)
    (refine wpOp_load_sub 9 _ rfl rfl (some 26) rfl 30 (.tmp 25) rfl w.heap.size (2 + a * 6) rfl 33 _ (0, 0) _ 6 HX.out.h1 Try.underlying30 rfl size30 NA.out _ EA.out ?_)
    refine ⟨trivial, ?_⟩
    simp only [Act.put, List.setIfInBounds_toArray, List.set_cons_zero, List.set_cons_succ]
    refine wpAnyH_takeD (i := 11) (v := .pointer (some ⟨w.heap.size, 2 + a * 6, none⟩)) (some 28) rfl rfl (by kernel_rfl) (by kernel_rfl) (by kernel_rfl) (fun _ _ _ h => h) (.inl ⟨rfl, fun _ _ => by go_simp⟩) trivial ?_
    simp only [Act.put, List.setIfInBounds_toArray, List.set_cons_zero, List.set_cons_succ]
    (refine wpAnyH_all (rs := [12]) (by kernel_rfl) (by simp) ?_; intro i_ hi_; obtain rfl := List.mem_singleton.1 hi_)
    refine wpOp_store_sub 12 _ rfl rfl none rfl 30 (.tmp 28) (.tmp 22) rfl w.heap.size (2 + a * 6) _ rfl rfl 33 _ HX.out.h1 (size30.trans (congrArg some ZB.out.symm)) N1.out (u16s_all _) _ P1.out ?_
    refine ⟨trivial, ?_⟩
    simp only [Act.put, List.setIfInBounds_toArray, List.set_cons_zero, List.set_cons_succ]
    refine wpAnyH_takeD (i := 14) (v := .pointer (some ⟨w.heap.size, 2 + b * 6, none⟩)) (some 30) rfl rfl (by kernel_rfl) (by kernel_rfl) (by kernel_rfl) (fun _ _ _ h => h) (.inl ⟨rfl, fun _ _ => by go_simp⟩) trivial ?_
    simp only [Act.put, List.setIfInBounds_toArray, List.set_cons_zero, List.set_cons_succ]
    (refine wpAnyH_all (rs := [15]) (by kernel_rfl) (by simp) ?_; intro i_ hi_; obtain rfl := List.mem_singleton.1 hi_)
    refine wpOp_store_sub 15 _ rfl rfl none rfl 30 (.tmp 30) (.tmp 26) rfl w.heap.size (2 + b * 6) _ rfl rfl 33 _ (heap_setRow_same (w := w2.drew) HX.out.h1) (size30.trans (congrArg some ZA.out.symm)) N2.out (u16s_all _) _ P2.out ?_
    refine ⟨trivial, ?_⟩
    simp only [Act.put, List.setIfInBounds_toArray, List.set_cons_zero, List.set_cons_succ]
    refine wpAnyH_done (by kernel_rfl) ?_ _
    have HY := Aside0.mk (heap_setRow_same (w := w2.drew.setRow w.heap.size (mat r c (rowSet l a (row l b)))) (cs := mat r c (rowSet (rowSet l a (row l b)) b (row l a))) (heap_setRow_same (w := w2.drew) HX.out.h1))
    have HR := Aside0.mk ((setRow_other (w2.drew.setRow w.heap.size (mat r c (rowSet l a (row l b)))) w.heap.size (w.heap.size + 1) (mat r c (rowSet (rowSet l a (row l b)) b (row l a))) (by omega)).trans ((setRow_other w2.drew w.heap.size (w.heap.size + 1) (mat r c (rowSet l a (row l b))) (by omega)).trans HX.out.h2))
    have HBB := Aside0.mk (below_setRow (below_setRow HX.out.hb.drew (Nat.le_refl _) (mat r c (rowSet l a (row l b)))) (Nat.le_refl _) (mat r c (rowSet (rowSet l a (row l b)) b (row l a))))
    go_wp2_with (first
      | (refine wpList_load_row rfl 33 _ rfl w.heap.size rfl 33 _ (0, 0) _ HY.out Try.underlying33 rfl (size33.trans (congrArg some HT.out.symm)) ?_)
      | (refine wpList_store_row rfl 33 _ _ rfl (w.heap.size + 1) _ rfl rfl 33 _ HR.out (size33.trans (congrArg some HT.out.symm)) (zsize.trans HT.out.symm) (mat_all _ _ _) ?_))
    refine bodyPost_ret (v := .tuple #[.agg (mat r c (swapL l a b)), .int .i64 0]) (results_pair rfl _ _ (w.heap.size + 1) 33 _ (0, 0) _ _ rfl rfl (heap_setRow_same HR.out) Try.underlying33 rfl (size33.trans (congrArg some HT.out.symm))) rfl ⟨rfl, ?_⟩
    exact below_setRow HBB.out (by omega) _
  · obtain rfl := List.mem_singleton.1 hi
    (refine wpOp_load_sub 9 _ rfl rfl (some 26) rfl 30 (.tmp 25) rfl w.heap.size (2 + a * 6) rfl 33 _ (0, 0) _ 6 HX.out.h1 Try.underlying30 rfl size30 NA.out _ EA.out ?_)
    refine ⟨trivial, ?_⟩
    simp only [Act.put, List.setIfInBounds_toArray, List.set_cons_zero, List.set_cons_succ]
    (refine wpAnyH_all (rs := [5]) (by kernel_rfl) (by simp) ?_; intro i_ hi_; obtain rfl := List.mem_singleton.1 hi_)
    (refine wpOp_load_sub 5 _ rfl rfl (some 22) rfl 30 (.tmp 21) rfl w.heap.size (2 + b * 6) rfl 33 _ (0, 0) _ 6 HX.out.h1 Try.underlying30 rfl size30 NB.out _ EB.out ?_)
    refine ⟨trivial, ?_⟩
    simp only [Act.put, List.setIfInBounds_toArray, List.set_cons_zero, List.set_cons_succ]
    refine wpAnyH_takeD (i := 11) (v := .pointer (some ⟨w.heap.size, 2 + a * 6, none⟩)) (some 28) rfl rfl (by kernel_rfl) (by kernel_rfl) (by kernel_rfl) (fun _ _ _ h => h) (.inl ⟨rfl, fun _ _ => by go_simp⟩) trivial ?_
    simp only [Act.put, List.setIfInBounds_toArray, List.set_cons_zero, List.set_cons_succ]
    (refine wpAnyH_all (rs := [12]) (by kernel_rfl) (by simp) ?_; intro i_ hi_; obtain rfl := List.mem_singleton.1 hi_)
    refine wpOp_store_sub 12 _ rfl rfl none rfl 30 (.tmp 28) (.tmp 22) rfl w.heap.size (2 + a * 6) _ rfl rfl 33 _ HX.out.h1 (size30.trans (congrArg some ZB.out.symm)) N1.out (u16s_all _) _ P1.out ?_
    refine ⟨trivial, ?_⟩
    simp only [Act.put, List.setIfInBounds_toArray, List.set_cons_zero, List.set_cons_succ]
    refine wpAnyH_takeD (i := 14) (v := .pointer (some ⟨w.heap.size, 2 + b * 6, none⟩)) (some 30) rfl rfl (by kernel_rfl) (by kernel_rfl) (by kernel_rfl) (fun _ _ _ h => h) (.inl ⟨rfl, fun _ _ => by go_simp⟩) trivial ?_
    simp only [Act.put, List.setIfInBounds_toArray, List.set_cons_zero, List.set_cons_succ]
    (refine wpAnyH_all (rs := [15]) (by kernel_rfl) (by simp) ?_; intro i_ hi_; obtain rfl := List.mem_singleton.1 hi_)
    refine wpOp_store_sub 15 _ rfl rfl none rfl 30 (.tmp 30) (.tmp 26) rfl w.heap.size (2 + b * 6) _ rfl rfl 33 _ (heap_setRow_same (w := w2.drew) HX.out.h1) (size30.trans (congrArg some ZA.out.symm)) N2.out (u16s_all _) _ P2.out ?_
    refine ⟨trivial, ?_⟩
    simp only [Act.put, List.setIfInBounds_toArray, List.set_cons_zero, List.set_cons_succ]
    refine wpAnyH_done (by kernel_rfl) ?_ _
    have HY := Aside0.mk (heap_setRow_same (w := w2.drew.setRow w.heap.size (mat r c (rowSet l a (row l b)))) (cs := mat r c (rowSet (rowSet l a (row l b)) b (row l a))) (heap_setRow_same (w := w2.drew) HX.out.h1))
    have HR := Aside0.mk ((setRow_other (w2.drew.setRow w.heap.size (mat r c (rowSet l a (row l b)))) w.heap.size (w.heap.size + 1) (mat r c (rowSet (rowSet l a (row l b)) b (row l a))) (by omega)).trans ((setRow_other w2.drew w.heap.size (w.heap.size + 1) (mat r c (rowSet l a (row l b))) (by omega)).trans HX.out.h2))
    have HBB := Aside0.mk (below_setRow (below_setRow HX.out.hb.drew (Nat.le_refl _) (mat r c (rowSet l a (row l b)))) (Nat.le_refl _) (mat r c (rowSet (rowSet l a (row l b)) b (row l a))))
    go_wp2_with (first
      | (refine wpList_load_row rfl 33 _ rfl w.heap.size rfl 33 _ (0, 0) _ HY.out Try.underlying33 rfl (size33.trans (congrArg some HT.out.symm)) ?_)
      | (refine wpList_store_row rfl 33 _ _ rfl (w.heap.size + 1) _ rfl rfl 33 _ HR.out (size33.trans (congrArg some HT.out.symm)) (zsize.trans HT.out.symm) (mat_all _ _ _) ?_))
    refine bodyPost_ret (v := .tuple #[.agg (mat r c (swapL l a b)), .int .i64 0]) (results_pair rfl _ _ (w.heap.size + 1) 33 _ (0, 0) _ _ rfl rfl (heap_setRow_same HR.out) Try.underlying33 rfl (size33.trans (congrArg some HT.out.symm))) rfl ⟨rfl, ?_⟩
    exact below_setRow HBB.out (by omega) _
end Go.Proofs.Ytjffoemohcebjaa.Mx
