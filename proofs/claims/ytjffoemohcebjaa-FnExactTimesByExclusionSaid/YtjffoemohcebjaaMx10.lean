/- TurnMatrix, of both programs, and its law. No condition but the lengths and the kinds' bounds. -/
import Derived.Test.YtjffoemohcebjaaMx9
set_option linter.unusedVariables false
set_option linter.unusedSimpArgs false
namespace Go.Proofs.Ytjffoemohcebjaa.Mx
open Go.RowKit Go.Proofs.Ytjffoemohcebjaa.Arr Go.Proofs.YtjffoemohcebjaaW.PrintWords Go.Proofs.YtjffoemohcebjaaW.PrintLast

theorem results_pair {P : Program} {fn : Func} {p u : Tmp} {ty : TypeId} (h : fn.results = #[.cell p ty, .tmp u]) (tmps : Array Value) (w : World) (g : Nat) (t : TypeId) (cs : Array Value) (fr : Nat × Nat) (d : TypeDesc) (x : Value)
    (hp : tmps.getD p undef = .pointer (some ⟨g, 0, none⟩)) (hx : tmps.getD u undef = x) (hg : w.heap[g]? = some (.cells cs t fr))
    (hu : P.underlying ty = some d) (hd : (match d with | .struct _ | .array _ _ => true | _ => false) = true) (hi : (P.info? ty).map (·.size) = some cs.size) :
    (results fn tmps).run P w = .ok (.tuple #[.agg cs, x]) w := by
  rw [results_cell_tmp h, hp, hx]
  simp [asAddr, Result.andThen, run_loadVar_row w g t ty cs fr d hg hu hd hi]
theorem zne : (mat 0 0 z36 = #[]) = False := by simp [mat]
theorem zsize : (mat 0 0 z36).size = 38 := mat_size _ _ _ rfl
/-- What TurnMatrix hands back. -/
def turnA (r c : Int) (l : List Int) : Int := if okM r c l = true then c else 0
def turnB (r c : Int) (l : List Int) : Int := if okM r c l = true then r else 0
def turnC (r c : Int) (l : List Int) : List Int := if okM r c l = true then turnL l else z36
def okE (r c : Int) (l : List Int) : Int := if okM r c l = true then 0 else 1
theorem turnC_len (r c : Int) (l : List Int) : (turnC r c l).length = 36 := by unfold turnC; split; exact matP_len _; rfl
set_option maxHeartbeats 800000 in
set_option maxRecDepth 100000 in
theorem specTurn (r c : Int) (l : List Int) (hl : l.length = 36) (hb : I8 r c) (w : World) :
    Calls Try.prog 19 #[.agg (mat r c l)] w fun e w' => e = .returned (.tuple #[.agg (mat (turnA r c l) (turnB r c l) (turnC r c l)), .int .i64 (okE r c l)]) ∧ Below w.heap.size w w' := by
  have HL := Aside0.mk hl
  have HI := Aside0.mk hb
  have HX := Aside0.mk (Bx2.start w (.cells (mat r c l) 33) (.cells (mat 0 0 z36) 33))
  have hz := zero33
  have hne := zne
  have hzs := zsize
  have HS := Aside0.mk hzs
  have HT := Aside0.mk (mat_size c r (turnL l) (matP_len _))
  clear hl hb
  unfold turnA turnB turnC okE
  cases hv : okM r c l with
  | false =>
    have HV := Aside0.mk hv
    clear hv
    go_enter Try.func19, Try.ntmps19
    go_wp2_with (first
      | (go_at_call 31; refine (l02Ok_any _ 33 r c l HL.out HI.out _ HX.out.h1).mono ?_; rw [HV.out]; rintro e w1 ⟨rfl, ⟨n1, rfl⟩⟩; replace HX := Aside0.mk (HX.out.drewN n1))
      | (refine wpList_store_row rfl 33 _ _ rfl (w.heap.size + 1) _ rfl rfl 33 _ HX.out.h2 (size33.trans (congrArg some HS.out.symm)) rfl (mat_all _ _ _) ?_))
    refine bodyPost_ret (results_pair rfl _ _ (w.heap.size + 1) 33 _ (0, 0) _ _ rfl rfl (heap_setRow_same HX.out.h2) Try.underlying33 rfl (size33.trans (congrArg some HS.out.symm))) rfl ⟨rfl, ?_⟩
    exact below_setRow HX.out.hb (by omega) _
  | true =>
    have HV := Aside0.mk hv
    clear hv
    simp only [if_true]
    go_enter Try.func19, Try.ntmps19
    go_wp2_with (first
      | (go_at_call 31; refine (l02Ok_any _ 33 r c l HL.out HI.out _ HX.out.h1).mono ?_; rw [HV.out]; rintro e w1 ⟨rfl, ⟨n1, rfl⟩⟩; replace HX := Aside0.mk (HX.out.drewN n1))
      | (go_at_call 39; refine (l02Turn _ r c l HL.out _ HX.out.h1).mono ?_; rintro e w2 ⟨rfl, hb2⟩; replace HX := Aside0.mk (HX.out.step hb2); clear hb2)
      | (refine wpList_store_row rfl 33 _ _ rfl (w.heap.size + 1) _ rfl rfl 33 _ HX.out.h2 (size33.trans (congrArg some HT.out.symm)) (HS.out.trans HT.out.symm) (mat_all _ _ _) ?_))
    refine bodyPost_ret (results_pair rfl _ _ (w.heap.size + 1) 33 _ (0, 0) _ _ rfl rfl (heap_setRow_same HX.out.h2) Try.underlying33 rfl (size33.trans (congrArg some HT.out.symm))) rfl ⟨rfl, ?_⟩
    exact below_setRow HX.out.hb (by omega) _
/-- The turned cells inside, of the first i rows, and of the first k of row i. -/
def turnH (c : Int) (l : List Int) (i k : Nat) (a b : Nat) : Int := if (b < i ∧ (a : Int) < c) ∨ (b = i ∧ a < k) then l.getD (b * 6 + a) 0 else 0
theorem turnH_start (c : Int) (l : List Int) : matP (turnH c l 0 0) = z36 := by
  rw [z36_P]
  exact matP_congr (fun a b _ _ => by unfold turnH; rw [if_neg (by omega)])
theorem turnH_row (c : Int) (l : List Int) (i k : Nat) (hk : (k : Int) = c) : matP (turnH c l i k) = matP (turnH c l (i + 1) 0) :=
  matP_congr (fun a b _ _ => by
    unfold turnH
    by_cases h : (b < i ∧ (a : Int) < c) ∨ (b = i ∧ a < k)
    · rw [if_pos h, if_pos (by omega)]
    · rw [if_neg h, if_neg (by omega)])
theorem turnH_set (c : Int) (l : List Int) (i k : Nat) (hi : i < 6) (hk : k < 6) : (matP (turnH c l i k)).set (k * 6 + i) (l.getD (i * 6 + k) 0) = matP (turnH c l i (k + 1)) := by
  rw [matP_set _ _ _ _ hk hi]
  refine matP_congr (fun a b _ _ => ?_)
  unfold turnH
  by_cases h : a = k ∧ b = i
  · rw [if_pos h, if_pos (by omega), h.1, h.2]
  · rw [if_neg h]
    by_cases h2 : (b < i ∧ (a : Int) < c) ∨ (b = i ∧ a < k)
    · rw [if_pos h2, if_pos (by omega)]
    · rw [if_neg h2, if_neg (by omega)]
theorem turnH_all (r c : Int) (l : List Int) (h : okM r c l = true) (n : Nat) (hn : (n : Int) = r) : matP (turnH c l n 0) = turnL l :=
  matP_congr (fun a b ha hb => by
    unfold turnH
    by_cases h1 : (b < n ∧ (a : Int) < c) ∨ (b = n ∧ a < 0)
    · rw [if_pos h1]
    · rw [if_neg h1, ok_cell h hb ha (by omega)])
set_option maxHeartbeats 800000 in
set_option maxRecDepth 100000 in
theorem implTurn_no (r c : Int) (l : List Int) (hl : l.length = 36) (hb : I8 r c) (hv : okM r c l = false) (w : World) :
    Calls Try.prog 20 #[.agg (mat r c l)] w fun e w' => e = .returned (.tuple #[.agg (mat 0 0 z36), .int .i64 1]) ∧ Below w.heap.size w w' := by
  have HL := Aside0.mk hl
  have HI := Aside0.mk hb
  have HV := Aside0.mk hv
  have HX := Aside0.mk (Bx2.start w (.cells (mat r c l) 33) (.cells (mat 0 0 z36) 33))
  have HM := Aside0.mk (mat_size r c l hl)
  have hz := zero33
  have hne := zne
  have hzs := zsize
  have HS := Aside0.mk hzs
  clear hl hb hv
  go_enter Try.func20, Try.ntmps20
  go_wp2_with (first
    | (refine wpList_load_row rfl 33 _ rfl w.heap.size rfl 33 _ (0, 0) _ HX.out.h1 Try.underlying33 rfl (size33.trans (congrArg some HM.out.symm)) ?_)
    | (go_at_call 13; refine (implValid r c l HL.out HI.out _).mono ?_; rw [HV.out]; rintro e w2 ⟨rfl, hb2⟩; replace HX := Aside0.mk (HX.out.step hb2); clear hb2)
    | (refine wpList_store_row rfl 33 _ _ rfl (w.heap.size + 1) _ rfl rfl 33 _ HX.out.h2 (size33.trans (congrArg some HS.out.symm)) rfl (mat_all _ _ _) ?_))
  refine bodyPost_ret (results_pair rfl _ _ (w.heap.size + 1) 33 _ (0, 0) _ _ rfl rfl (heap_setRow_same HX.out.h2) Try.underlying33 rfl (size33.trans (congrArg some HS.out.symm))) rfl ⟨rfl, ?_⟩
  exact below_setRow HX.out.hb (by omega) _
set_option maxHeartbeats 1600000 in
set_option maxRecDepth 100000 in
theorem implTurn_yes (r c : Int) (l : List Int) (hl : l.length = 36) (hb : I8 r c) (hv : okM r c l = true) (w : World) :
    Calls Try.prog 20 #[.agg (mat r c l)] w fun e w' => e = .returned (.tuple #[.agg (mat c r (turnL l)), .int .i64 0]) ∧ Below w.heap.size w w' := by
  have HL := Aside0.mk hl
  have HI := Aside0.mk hb
  have HV := Aside0.mk hv
  obtain ⟨b1, b2, b3, b4⟩ := okM_bounds hv
  have HM := Aside0.mk (mat_size r c l hl)
  have HT := Aside0.mk (mat_size c r (turnL l) (matP_len _))
  obtain ⟨Z, M, HZ, HMM, hz, hZ0, hbu, hst, hst', hsz, hsZ⟩ := lit_names c r
  have HX := Aside0.mk (Bx2.start w (.cells (mat r c l) 33) (.cells Z 33))
  clear hl hb hv
  go_enter Try.func20, Try.ntmps20
  go_wp2_with (first
    | (refine wpList_load_row rfl 33 _ rfl w.heap.size rfl 33 _ (0, 0) _ HX.out.h1 Try.underlying33 rfl (size33.trans (congrArg some HM.out.symm)) ?_)
    | (go_at_call 13; refine (implValid r c l HL.out HI.out _).mono ?_; rw [HV.out]; rintro e w2 ⟨rfl, hb2⟩; replace HX := Aside0.mk (HX.out.step hb2); have g0 := mat_cell0 HX.out.h1; have g1 := mat_cell1 HX.out.h1; have q1 : w.heap.size < w2.heap.size := Nat.lt_trans (Nat.lt_succ_self _) HX.out.size; have q2 : ¬ w.heap.size = w2.heap.size := Nat.ne_of_lt q1; clear hb2))
  have hZ := HZ.out
  have hM := HMM.out
  clear HZ HMM hz hZ0 hbu hst hst' hsz hsZ
  subst hZ
  subst hM
  have q3 := HX.out.size
  go_loopw [18] (fun i w' => ∃ n : Nat, (n : Int) ≤ r ∧ i = .int .i8 n ∧ Aside0 (St3 w.heap.size w w' w.heap.size (w.heap.size + 1) w2.heap.size (.cells (mat r c l) 33) (.cells (mat 0 0 z36) 33) (.cells (mat c r (matP (turnH c l n 0))) 33))) (fun i w' => 6 - (intOf i).toNat)
  case atStart => exact ⟨0, by omega, rfl, ⟨by rw [turnH_start]; exact St3.made HX.out.hb (by omega) HX.out.h1 HX.out.h2 _⟩⟩
  case round =>
    obtain ⟨n, hn, rfl, HT3⟩ := hrel
    have hw8 := i8_next (n := n) (by omega)
    have g2 := mat_cell1 HT3.out.hg
    by_cases hltn : (n : Int) < r
    · go_wp2_with fail
      go_loopw [23] (fun k w' => ∃ q : Nat, (q : Int) ≤ c ∧ k = .int .i8 q ∧ Aside0 (St3 w.heap.size w w' w.heap.size (w.heap.size + 1) w2.heap.size (.cells (mat r c l) 33) (.cells (mat 0 0 z36) 33) (.cells (mat c r (matP (turnH c l n q))) 33))) (fun k w' => 6 - (intOf k).toNat)
      case atStart => exact ⟨0, by omega, rfl, HT3⟩
      case round =>
        clear HT3
        obtain ⟨q, hq, rfl, HT3⟩ := hrel
        have hv8 := i8_next (n := q) (by omega)
        by_cases hlq : (q : Int) < c
        · have gx := mat_cell HT3.out.hg HL.out (i := n) (k := q) (by omega) (by omega)
          have gy := mat_cell HT3.out.ho (matP_len _) (i := q) (k := n) (by omega) (by omega)
          have gf : wr.frozen? ⟨w2.heap.size, 2 + q * 6 + n, none⟩ = false := frozen_of_row _ _ _ _ _ HT3.out.ho
          have HS := Aside0.mk (turnH_set c l n q (by omega) (by omega))
          generalize l.getD (n * 6 + q) 0 = x at gx HS
          generalize (matP (turnH c l n q)).getD (q * 6 + n) 0 = y at gy
          go_wp2_with fail
          go_region
          all_goals go_wp2_with fail
          all_goals exact ⟨⟨q + 1, by omega, by go_num, (by first | exact ⟨HT3.out.set (by omega) (by omega) (by omega) q n x HS.out⟩ | exact ⟨(HT3.out.set (by omega) (by omega) (by omega) q n x HS.out).drewN 1⟩)⟩, by simp [intOf]; omega⟩
        · go_wp2_with fail
          exact ⟨⟨n + 1, by omega, by go_num, ⟨by rw [← turnH_row c l n q (by omega)]; exact HT3.out⟩⟩, by simp [intOf]; omega⟩
    · have H := HT3.out
      rw [turnH_all r c l HV.out n (by omega)] at H
      have HT' := Aside0.mk H
      clear H HT3
      go_wp2_with (first
        | (refine wpList_load_row rfl 33 _ rfl w2.heap.size rfl 33 _ (0, 0) _ HT'.out.ho Try.underlying33 rfl (size33.trans (congrArg some HT.out.symm)) ?_)
        | (refine wpList_store_row rfl 33 _ _ rfl (w.heap.size + 1) _ rfl rfl 33 _ HT'.out.hz (size33.trans (congrArg some HT.out.symm)) (zsize.trans HT.out.symm) (mat_all _ _ _) ?_))
      refine bodyPost_ret (results_pair rfl _ _ (w.heap.size + 1) 33 _ (0, 0) _ _ rfl rfl (heap_setRow_same HT'.out.hz) Try.underlying33 rfl (size33.trans (congrArg some HT.out.symm))) rfl ⟨rfl, ?_⟩
      exact below_setRow HT'.out.hb (by omega) _
theorem implTurn (r c : Int) (l : List Int) (hl : l.length = 36) (hb : I8 r c) (w : World) :
    Calls Try.prog 20 #[.agg (mat r c l)] w fun e w' => e = .returned (.tuple #[.agg (mat (turnA r c l) (turnB r c l) (turnC r c l)), .int .i64 (okE r c l)]) ∧ Below w.heap.size w w' := by
  unfold turnA turnB turnC okE
  cases hv : okM r c l with
  | false => exact implTurn_no r c l hl hb hv w
  | true => exact implTurn_yes r c l hl hb hv w
theorem keep_step {w' w2 : World} {b : Nat} {o : Obj} (h : w'.heap[b]? = some o) (k : Below w'.heap.size w' w2) : w2.heap[b]? = some o := by rw [k.block _ (Array.getElem?_eq_some_iff.1 h).1]; exact h
theorem keep_stored {w2 : World} {b : Nat} {o : Obj} (h : w2.heap[b]? = some o) (A : Obj) (T : Array Value) : ((w2.alloc A).setRow w2.heap.size T).heap[b]? = some o := by
  have hlt := (Array.getElem?_eq_some_iff.1 h).1
  rw [setRow_other _ _ _ _ (by omega), heap_lo _ _ _ hlt]
  exact h
theorem stored_at (w2 : World) (Z T : Array Value) (t : TypeId) : ((w2.alloc (.cells Z t)).setRow w2.heap.size T).heap[w2.heap.size]? = some (.cells T t) := heap_setRow_same (heap_at _ _ _ rfl)
theorem Bx.stored {w w2 : World} {o : Obj} (h : Bx w w2 o) (A : Obj) (T : Array Value) : Bx w ((w2.alloc A).setRow w2.heap.size T) o :=
  ⟨below_setRow (h.alloc A).hb (Nat.le_of_lt h.size) _, keep_stored h.hg A T⟩
set_option maxHeartbeats 1600000 in
set_option maxRecDepth 100000 in
theorem law_TurnMatrix (r c : Int) (l : List Int) (hl : l.length = 36) (hb : I8 r c) (hx : ∀ x ∈ l, 0 ≤ x ∧ x ≤ 65535) (w : World) :
    Calls Try.prog 6 #[.agg (mat r c l)] w fun e w' => e = .returned (.bool true) ∧ Below w.heap.size w w' := by
  have HL := Aside0.mk hl
  have HI := Aside0.mk hb
  have HS := Aside0.mk (mat_size r c l hl)
  have HX := Aside0.mk (Bx.start w (.cells (mat r c l) 27))
  have H1 := Aside0.mk (specTurn r c l hl hb)
  have H2 := Aside0.mk (implTurn r c l hl hb)
  have HE := Aside0.mk (eqM (turnA r c l) (turnB r c l) (turnC r c l) (turnC_len r c l))
  have HN := Aside0.mk (mat_size (turnA r c l) (turnB r c l) (turnC r c l) (turnC_len r c l))
  have HA := Aside0.mk (mat_all (turnA r c l) (turnB r c l) (turnC r c l))
  clear hl hb hx
  generalize mat (turnA r c l) (turnB r c l) (turnC r c l) = T at H1 H2 HE HN HA
  generalize okE r c l = q at H1 H2
  have hz := zero33
  go_enter Try.func6, Try.ntmps6
  go_wp2_with (first
    | (refine wpList_load_row rfl 27 _ rfl w.heap.size rfl 27 _ (0, 0) _ HX.out.hg Try.underlying27 rfl (size27.trans (congrArg some HS.out.symm)) ?_)
    | (refine wpList_load_row rfl 33 _ rfl wS.heap.size rfl 33 _ (0, 0) _ HW.out Try.underlying33 rfl (size33.trans (congrArg some HN.out.symm)) ?_)
    | (refine wpList_load_row rfl 33 _ rfl wG.heap.size rfl 33 _ (0, 0) _ HG.out Try.underlying33 rfl (size33.trans (congrArg some HN.out.symm)) ?_)
    | (refine wpList_store_row rfl 33 _ _ rfl wS.heap.size _ rfl rfl 33 _ (heap_at _ _ _ rfl) (size33.trans (congrArg some HN.out.symm)) (zsize.trans HN.out.symm) HA.out ?_; replace HX := Aside0.mk (Bx.stored HX.out (.cells (mat 0 0 z36) 33) T); have HW := Aside0.mk (stored_at wS (mat 0 0 z36) T 33))
    | (refine wpList_store_row rfl 33 _ _ rfl wG.heap.size _ rfl rfl 33 _ (heap_at _ _ _ rfl) (size33.trans (congrArg some HN.out.symm)) (zsize.trans HN.out.symm) HA.out ?_; replace HX := Aside0.mk (Bx.stored HX.out (.cells (mat 0 0 z36) 33) T); replace HW := Aside0.mk (keep_stored HW.out (.cells (mat 0 0 z36) 33) T); have HG := Aside0.mk (stored_at wG (mat 0 0 z36) T 33))
    | (go_at_call 12; refine (toM r c l HL.out _).mono ?_; rintro e w2 ⟨rfl, hb2⟩; replace HX := Aside0.mk (HX.out.step hb2); (try replace HW := Aside0.mk (keep_step HW.out hb2)); clear hb2)
    | (go_at_call 19; refine (H1.out _).mono ?_; rintro e wS ⟨rfl, hb2⟩; replace HX := Aside0.mk (HX.out.step hb2); clear hb2)
    | (go_at_call 20; refine (H2.out _).mono ?_; rintro e wG ⟨rfl, hb2⟩; replace HX := Aside0.mk (HX.out.step hb2); replace HW := Aside0.mk (keep_step HW.out hb2); clear hb2)
    | (go_at_call 16; refine (HE.out _).mono ?_; rintro e w2 ⟨rfl, hb2⟩; replace HX := Aside0.mk (HX.out.step hb2); clear hb2))
  go_ret
  exact ⟨rfl, HX.out.hb⟩
end Go.Proofs.Ytjffoemohcebjaa.Mx
