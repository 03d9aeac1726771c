/- PlusMatrix, of both programs, and its law. No condition but the lengths and the kinds' bounds. -/
import Derived.Test.YtjffoemohcebjaaMx11
set_option linter.unusedVariables false
set_option linter.unusedSimpArgs false
namespace Go.Proofs.Ytjffoemohcebjaa.Mx
open Go.RowKit Go.Proofs.Ytjffoemohcebjaa.Arr Go.Proofs.YtjffoemohcebjaaW.PrintWords Go.Proofs.YtjffoemohcebjaaW.PrintLast

/-- The sums of the first i rows, and of the first k of row i. -/
def plusG (a b : List Int) (i k : Nat) (x y : Nat) : Int := if x < i ∨ (x = i ∧ y < k) then X16 (a.getD (x * 6 + y) 0) (b.getD (x * 6 + y) 0) else a.getD (x * 6 + y) 0
def plusL (a b : List Int) : List Int := matP (fun x y => X16 (a.getD (x * 6 + y) 0) (b.getD (x * 6 + y) 0))
theorem plusG_start (a b : List Int) (ha : a.length = 36) : matP (plusG a b 0 0) = a :=
  (matP_congr (fun x y _ _ => by unfold plusG; rw [if_neg (by omega)])).trans (matP_of ha)
theorem plusG_row (a b : List Int) (i : Nat) : matP (plusG a b i 6) = matP (plusG a b (i + 1) 0) :=
  matP_congr (fun x y _ _ => by
    unfold plusG
    by_cases h : x < i ∨ (x = i ∧ y < 6)
    · rw [if_pos h, if_pos (by omega)]
    · rw [if_neg h, if_neg (by omega)])
theorem plusG_at (a b : List Int) {i k : Nat} (hi : i < 6) (hk : k < 6) : (matP (plusG a b i k)).getD (i * 6 + k) 0 = a.getD (i * 6 + k) 0 := by
  rw [matP_getD _ hi hk]
  unfold plusG
  rw [if_neg (by omega)]
theorem plusG_set (a b : List Int) (i k : Nat) (hi : i < 6) (hk : k < 6) : (matP (plusG a b i k)).set (i * 6 + k) (Go.bits .xor .u16 (a.getD (i * 6 + k) 0) (b.getD (i * 6 + k) 0)) = matP (plusG a b i (k + 1)) := by
  rw [matP_set _ _ _ _ hi hk]
  refine matP_congr (fun x y _ _ => ?_)
  unfold plusG
  by_cases h : x = i ∧ y = k
  · rw [if_pos h, if_pos (by omega), h.1, h.2]
    rfl
  · rw [if_neg h]
    by_cases h2 : x < i ∨ (x = i ∧ y < k)
    · rw [if_pos h2, if_pos (by omega)]
    · rw [if_neg h2, if_neg (by omega)]
theorem plusG_all (a b : List Int) : matP (plusG a b 6 0) = plusL a b :=
  matP_congr (fun x y _ _ => by unfold plusG; rw [if_pos (by omega)])
/-- The sums inside, of the first i rows, and of the first k of row i. -/
def plusH (c : Int) (a b : List Int) (i k : Nat) (x y : Nat) : Int := if (x < i ∧ (y : Int) < c) ∨ (x = i ∧ y < k) then X16 (a.getD (x * 6 + y) 0) (b.getD (x * 6 + y) 0) else a.getD (x * 6 + y) 0
theorem plusH_start (c : Int) (a b : List Int) (ha : a.length = 36) : matP (plusH c a b 0 0) = a :=
  (matP_congr (fun x y _ _ => by unfold plusH; rw [if_neg (by omega)])).trans (matP_of ha)
theorem plusH_row (c : Int) (a b : List Int) (i k : Nat) (hk : (k : Int) = c) : matP (plusH c a b i k) = matP (plusH c a b (i + 1) 0) :=
  matP_congr (fun x y _ _ => by
    unfold plusH
    by_cases h : (x < i ∧ (y : Int) < c) ∨ (x = i ∧ y < k)
    · rw [if_pos h, if_pos (by omega)]
    · rw [if_neg h, if_neg (by omega)])
theorem plusH_at (c : Int) (a b : List Int) {i k : Nat} (hi : i < 6) (hk : k < 6) : (matP (plusH c a b i k)).getD (i * 6 + k) 0 = a.getD (i * 6 + k) 0 := by
  rw [matP_getD _ hi hk]
  unfold plusH
  rw [if_neg (by omega)]
theorem plusH_set (c : Int) (a b : List Int) (i k : Nat) (hi : i < 6) (hk : k < 6) : (matP (plusH c a b i k)).set (i * 6 + k) (Go.bits .xor .u16 (a.getD (i * 6 + k) 0) (b.getD (i * 6 + k) 0)) = matP (plusH c a b i (k + 1)) := by
  rw [matP_set _ _ _ _ hi hk]
  refine matP_congr (fun x y _ _ => ?_)
  unfold plusH
  by_cases h : x = i ∧ y = k
  · rw [if_pos h, if_pos (by omega), h.1, h.2]
    rfl
  · rw [if_neg h]
    by_cases h2 : (x < i ∧ (y : Int) < c) ∨ (x = i ∧ y < k)
    · rw [if_pos h2, if_pos (by omega)]
    · rw [if_neg h2, if_neg (by omega)]
theorem plusH_all (r c : Int) (a b : List Int) (h : okM r c a = true) (h' : okM r c b = true) (n : Nat) (hn : (n : Int) = r) : matP (plusH c a b n 0) = plusL a b :=
  matP_congr (fun x y hx hy => by
    unfold plusH
    by_cases h1 : (x < n ∧ (y : Int) < c) ∨ (x = n ∧ y < 0)
    · rw [if_pos h1]
    · rw [if_neg h1, ok_cell h hx hy (by omega), ok_cell h' hx hy (by omega), X16_zero (by omega)])
def plusE (r c : Int) (a : List Int) (r' c' : Int) (b : List Int) : Int := if okM r c a = true ∧ okM r' c' b = true then (if r = r' ∧ c = c' then 0 else 4) else 1
def plusR (r c : Int) (a : List Int) (r' c' : Int) (b : List Int) : Int := if plusE r c a r' c' b = 0 then r else 0
def plusC (r c : Int) (a : List Int) (r' c' : Int) (b : List Int) : Int := if plusE r c a r' c' b = 0 then c else 0
def plusM (r c : Int) (a : List Int) (r' c' : Int) (b : List Int) : List Int := if plusE r c a r' c' b = 0 then plusL a b else z36
theorem plusM_len (r c : Int) (a : List Int) (r' c' : Int) (b : List Int) : (plusM r c a r' c' b).length = 36 := by unfold plusM; split; exact matP_len _; rfl
/-- Three boxes that are kept. -/
structure Bx3 (w w' : World) (o1 o2 o3 : Obj) : Prop where
  hb : Below w.heap.size w w'
  h1 : w'.heap[w.heap.size]? = some o1
  h2 : w'.heap[w.heap.size + 1]? = some o2
  h3 : w'.heap[w.heap.size + 1 + 1]? = some o3
theorem Bx3.start (w : World) (o1 o2 o3 : Obj) : Bx3 w (((w.alloc o1).alloc o2).alloc o3) o1 o2 o3 :=
  ⟨below_alloc (below_alloc (below_alloc (Below.refl _ _) _) _) _, heap3_0 .., heap3_1 .., heap3_2 ..⟩
theorem Bx3.size {w w' o1 o2 o3} (h : Bx3 w w' o1 o2 o3) : w.heap.size + 1 + 1 < w'.heap.size := (Array.getElem?_eq_some_iff.1 h.h3).1
theorem Bx3.step {w w' w2 o1 o2 o3} (h : Bx3 w w' o1 o2 o3) (k : Below w'.heap.size w' w2) : Bx3 w w2 o1 o2 o3 :=
  ⟨h.hb.trans (k.mono (by have := h.size; omega)), keep_step h.h1 k, keep_step h.h2 k, keep_step h.h3 k⟩
theorem Bx3.drewN {w w' o1 o2 o3} (h : Bx3 w w' o1 o2 o3) (n : Nat) : Bx3 w (w'.drewN n) o1 o2 o3 := ⟨pw_below_drewN h.hb n, h.h1, h.h2, h.h3⟩
theorem Bx3.more {w v : World} {a : Nat} {o1 o2 o3 : Obj} (h : Bx3 w (v.drewN a) o1 o2 o3) (b : Nat) : Bx3 w (v.drewN (a + b)) o1 o2 o3 := by have := h.drewN b; rwa [World.drewN_drewN] at this
theorem Bx3.set {w w' : World} {o2 o3 : Obj} {r c : Int} {m m' : List Int} (h : Bx3 w w' (.cells (mat r c m) 33) o2 o3) (i k : Nat) (x : Int) (e : m.set (i * 6 + k) x = m') : Bx3 w (w'.setCell ⟨w.heap.size, 2 + i * 6 + k, none⟩ (.int .u16 x)) (.cells (mat r c m') 33) o2 o3 where
  hb := h.hb.setCell (Nat.le_refl _) _
  h1 := by rw [heap_setCell_same _ _ _ _ _ _ h.h1, Nat.add_assoc, mat_set2, e]
  h2 := by rw [heap_setCell_other _ _ _ _ (Nat.succ_ne_self _)]; exact h.h2
  h3 := by rw [heap_setCell_other _ _ _ _ (by show w.heap.size + 1 + 1 ≠ w.heap.size; omega)]; exact h.h3
theorem plus_cases (r c : Int) (a : List Int) (r' c' : Int) (b : List Int) : okM r c a = false ∨ (okM r c a = true ∧ okM r' c' b = false) ∨ (okM r c a = true ∧ okM r' c' b = true ∧ r ≠ r') ∨ (okM r c a = true ∧ okM r' c' b = true ∧ r = r' ∧ c ≠ c') ∨ (okM r c a = true ∧ okM r' c' b = true ∧ r = r' ∧ c = c') := by
  by_cases h1 : r = r' <;> by_cases h2 : c = c' <;> cases okM r c a <;> cases okM r' c' b <;> simp [h1, h2]
set_option maxHeartbeats 1600000 in
set_option maxRecDepth 100000 in
theorem specPlus_no (r c : Int) (a : List Int) (ha : a.length = 36) (hb : I8 r c) (r' c' : Int) (b : List Int) (hb' : b.length = 36) (hi' : I8 r' c') (E : Int) (hE : (okM r c a = false ∧ E = 1) ∨ (okM r c a = true ∧ okM r' c' b = false ∧ E = 1) ∨ (okM r c a = true ∧ okM r' c' b = true ∧ (r != r') = true ∧ E = 4) ∨ (okM r c a = true ∧ okM r' c' b = true ∧ r = r' ∧ (c != c') = true ∧ E = 4)) (w : World) :
    Calls Try.prog 21 #[.agg (mat r c a), .agg (mat r' c' b)] w fun e w' => e = .returned (.tuple #[.agg (mat 0 0 z36), .int .i64 E]) ∧ Below w.heap.size w w' := by
  have HL := Aside0.mk ha
  have HI := Aside0.mk hb
  have HL' := Aside0.mk hb'
  have HI' := Aside0.mk hi'
  have HX := Aside0.mk (Bx3.start w (.cells (mat r c a) 33) (.cells (mat r' c' b) 33) (.cells (mat 0 0 z36) 33))
  have g0 := mat_cell0 HX.out.h1
  have g1 := mat_cell1 HX.out.h1
  have g0' := mat_cell0 HX.out.h2
  have g1' := mat_cell1 HX.out.h2
  have hz := zero33
  have hne := zne
  have hzs := zsize
  have HS := Aside0.mk hzs
  clear ha hb hb' hi'
  rcases hE with ⟨hv, rfl⟩ | ⟨hv, hv', rfl⟩ | ⟨hv, hv', hr, rfl⟩ | ⟨hv, hv', rfl, hr, rfl⟩
  all_goals
    (have HV := Aside0.mk hv; (try have HV' := Aside0.mk hv'); clear hv; (try clear hv'))
    go_enter Try.func21, Try.ntmps21
    go_wp2_with (first
      | (go_at_call 31; ((with_reducible refine (l02Ok_any w.heap.size 33 _ c a HL.out HI.out _ HX.out.h1).mono ?_)); rw [HV.out]; rintro e w1 ⟨rfl, ⟨n1, rfl⟩⟩; replace HX := Aside0.mk (HX.out.drewN n1))
      | (go_at_call 31; ((with_reducible refine (l02Ok_any (w.heap.size + 1) 33 _ c' b HL'.out HI'.out _ HX.out.h2).mono ?_)); rw [HV'.out]; rintro e w1 ⟨rfl, ⟨n1, rfl⟩⟩; replace HX := Aside0.mk (HX.out.more n1))
      | (refine wpList_store_row rfl 33 _ _ rfl (w.heap.size + 1 + 1) _ rfl rfl 33 _ HX.out.h3 (size33.trans (congrArg some HS.out.symm)) rfl (mat_all _ _ _) ?_))
    refine bodyPost_ret (results_pair rfl _ _ (w.heap.size + 1 + 1) 33 _ (0, 0) _ _ rfl rfl (heap_setRow_same HX.out.h3) Try.underlying33 rfl (size33.trans (congrArg some HS.out.symm))) rfl ⟨rfl, ?_⟩
    exact below_setRow HX.out.hb (by omega) _
set_option maxHeartbeats 1600000 in
set_option maxRecDepth 100000 in
theorem specPlus_yes (r c : Int) (a : List Int) (ha : a.length = 36) (hb : I8 r c) (b : List Int) (hb' : b.length = 36) (hv : okM r c a = true) (hv' : okM r c b = true) (w : World) :
    Calls Try.prog 21 #[.agg (mat r c a), .agg (mat r c b)] w fun e w' => e = .returned (.tuple #[.agg (mat r c (plusL a b)), .int .i64 0]) ∧ Below w.heap.size w w' := by
  have HL := Aside0.mk ha
  have HI := Aside0.mk hb
  have HL' := Aside0.mk hb'
  have HV := Aside0.mk hv
  have HV' := Aside0.mk hv'
  have HX := Aside0.mk (Bx3.start w (.cells (mat r c a) 33) (.cells (mat r c b) 33) (.cells (mat 0 0 z36) 33))
  have g0 := mat_cell0 HX.out.h1
  have g1 := mat_cell1 HX.out.h1
  have g0' := mat_cell0 HX.out.h2
  have g1' := mat_cell1 HX.out.h2
  have hz := zero33
  have HT := Aside0.mk (mat_size r c (plusL a b) (matP_len _))
  clear ha hb hb' hv hv'
  go_enter Try.func21, Try.ntmps21
  go_wp2_with (first
    | (go_at_call 31; ((with_reducible refine (l02Ok_any w.heap.size 33 r c a HL.out HI.out _ HX.out.h1).mono ?_)); rw [HV.out]; rintro e w1 ⟨rfl, ⟨n1, rfl⟩⟩; replace HX := Aside0.mk (HX.out.drewN n1))
    | (go_at_call 31; ((with_reducible refine (l02Ok_any (w.heap.size + 1) 33 r c b HL'.out HI.out _ HX.out.h2).mono ?_)); rw [HV'.out]; rintro e w1 ⟨rfl, ⟨n1, rfl⟩⟩; replace HX := Aside0.mk (HX.out.more n1)))
  go_loopw [6] (fun i w' => ∃ n : Nat, n ≤ 6 ∧ i = .int .i64 n ∧ Aside0 (Bx3 w w' (.cells (mat r c (matP (plusG a b n 0))) 33) (.cells (mat r c b) 33) (.cells (mat 0 0 z36) 33))) (fun i w' => 6 - (intOf i).toNat)
  case atStart => exact ⟨0, by omega, rfl, ⟨by rw [plusG_start a b HL.out]; exact HX.out⟩⟩
  case round =>
    clear HX
    obtain ⟨n, hn, rfl, HT3⟩ := hrel
    by_cases hltn : n < 6
    · go_wp2_with fail
      go_loopw [7] (fun k w' => ∃ q : Nat, q ≤ 6 ∧ k = .int .i64 q ∧ Aside0 (Bx3 w w' (.cells (mat r c (matP (plusG a b n q))) 33) (.cells (mat r c b) 33) (.cells (mat 0 0 z36) 33))) (fun k w' => 6 - (intOf k).toNat)
      case atStart => exact ⟨0, by omega, rfl, HT3⟩
      case round =>
        clear HT3
        obtain ⟨q, hq, rfl, HT3⟩ := hrel
        by_cases hlq : q < 6
        · have gx := mat_cell HT3.out.h1 (matP_len _) hltn hlq
          rw [plusG_at a b hltn hlq] at gx
          have gy := mat_cell HT3.out.h2 HL'.out hltn hlq
          have gf : wr.frozen? ⟨w.heap.size, 2 + n * 6 + q, none⟩ = false := frozen_of_row _ _ _ _ _ HT3.out.h1
          have HS := Aside0.mk (plusG_set a b n q hltn hlq)
          generalize a.getD (n * 6 + q) 0 = x at gx HS
          generalize b.getD (n * 6 + q) 0 = y at gy HS
          go_wp2_with fail
          go_region
          all_goals go_wp2_with fail
          all_goals exact ⟨⟨q + 1, by omega, by go_num, (by first | exact ⟨HT3.out.set n q _ HS.out⟩ | exact ⟨(HT3.out.set n q _ HS.out).drewN 1⟩)⟩, by simp [intOf]; omega⟩
        · obtain rfl : q = 6 := by omega
          go_wp2_with fail
          exact ⟨⟨n + 1, by omega, by go_num, ⟨by rw [← plusG_row]; exact HT3.out⟩⟩, by simp [intOf]; omega⟩
    · obtain rfl : n = 6 := by omega
      have H := HT3.out
      rw [plusG_all] at H
      have HT' := Aside0.mk H
      clear H HT3
      go_wp2_with (first
        | (refine wpList_load_row rfl 33 _ rfl w.heap.size rfl 33 _ (0, 0) _ HT'.out.h1 Try.underlying33 rfl (size33.trans (congrArg some HT.out.symm)) ?_)
        | (refine wpList_store_row rfl 33 _ _ rfl (w.heap.size + 1 + 1) _ rfl rfl 33 _ HT'.out.h3 (size33.trans (congrArg some HT.out.symm)) (zsize.trans HT.out.symm) (mat_all _ _ _) ?_))
      refine bodyPost_ret (results_pair rfl _ _ (w.heap.size + 1 + 1) 33 _ (0, 0) _ _ rfl rfl (heap_setRow_same HT'.out.h3) Try.underlying33 rfl (size33.trans (congrArg some HT.out.symm))) rfl ⟨rfl, ?_⟩
      exact below_setRow HT'.out.hb (by omega) _
end Go.Proofs.Ytjffoemohcebjaa.Mx
