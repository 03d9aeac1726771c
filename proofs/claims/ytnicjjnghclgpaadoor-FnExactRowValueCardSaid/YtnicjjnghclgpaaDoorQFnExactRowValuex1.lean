/- Written by the session's own program (wip/myprint.py), for the law FnExactRowValue: each function as a plain Lean function, and its contract. -/
import Derived.Test.YtnicjjnghclgpaaDoorQFnExactRowValuex0
namespace Go.Proofs.YtnicjjnghclgpaaDoor.QFnExactRowValue
open Go.RowKit Go.Proofs.YtnicjjnghclgpaaDoorW.PrintWords Go.Proofs.YtnicjjnghclgpaaDoorW.PrintLast Go.Proofs.YtnicjjnghclgpaaDoorW.PrintMore
attribute [local go_sem] max2_int min2_int max_two min_two max_three min_three max_four min_four   -- for this text's walks alone
set_option linter.unusedVariables false
set_option linter.unusedSimpArgs false

/-! ### spec_l04Turns: function 23 -/
mutual
def spec_l04Turns.l0 : Nat → List Int → Int → Int → Option (List Int)
  | 0, _, _, _ => none
  | k + 1, x5, x6, x7 => if x7 = 0 then (some x5) else (if x5.length < 35184372088832 then ((some (x5 ++ [x7] : List Int)).bind fun y107 => (if (Go.bits .and .u32 x7 1) = 1 then (some y107) else (spec_l04Turns.l0 k y107 x6 (Go.bits .and .u32 (Go.bits .or .u32 x7 (x7 / 2)) ((((x6 * 2) % 4294967296) - 1) % 4294967296))))) else (none))
def spec_l04Turns.j1 : Nat → Int → Int → List Int → Int → Bool → Option (List Int)
  | 0, _, _, _, _, _ => none
  | k + 1, x0, x1, x5, x6, x21 => if x21 = true then (if x5.length < 35184372088832 then (spec_l04Turns.j2 k x0 x1 (x5 ++ [x6]) x6) else (none)) else (spec_l04Turns.j2 k x0 x1 x5 x6)
def spec_l04Turns.j2 : Nat → Int → Int → List Int → Int → Option (List Int)
  | 0, _, _, _, _ => none
  | k + 1, x0, x1, x5, x6 => spec_l04Turns.l1 k x0 x1 x5 x6 0
def spec_l04Turns.l1 : Nat → Int → Int → List Int → Int → Int → Option (List Int)
  | 0, _, _, _, _, _ => none
  | k + 1, x0, x1, x5, x6, x8 => if x8 < x1 then (if 0 ≤ (IntKind.u64.wrap (x8)) then (if x0 = 5 then (spec_l04Turns.j4 k x0 x1 x5 x6 x8 (Go.bits .or .u32 x6 (shl .u32 1 (IntKind.u64.wrap (x8))))) else (if x5.length < 35184372088832 then (spec_l04Turns.j4 k x0 x1 (x5 ++ [Go.bits .or .u32 x6 (shl .u32 1 (IntKind.u64.wrap (x8)))]) x6 x8 (Go.bits .or .u32 x6 (shl .u32 1 (IntKind.u64.wrap (x8))))) else (none))) else (none)) else (some x5)
def spec_l04Turns.j4 : Nat → Int → Int → List Int → Int → Int → Int → Option (List Int)
  | 0, _, _, _, _, _, _ => none
  | k + 1, x0, x1, x5, x6, x8, x9 => spec_l04Turns.l2 k x0 x1 x5 x6 x8 x9 0
def spec_l04Turns.l2 : Nat → Int → Int → List Int → Int → Int → Int → Int → Option (List Int)
  | 0, _, _, _, _, _, _, _ => none
  | k + 1, x0, x1, x5, x6, x8, x9, x10 => if x10 < x8 then (if x0 = 3 then (if 0 ≤ (IntKind.u64.wrap (x10)) then (if x5.length < 35184372088832 then (spec_l04Turns.l2 k x0 x1 (x5 ++ [Go.bits .or .u32 x9 (shl .u32 1 (IntKind.u64.wrap (x10)))]) x6 x8 x9 (wrap64 (x10 + 1))) else (none)) else (none)) else (if x0 = 5 then (if 0 ≤ (IntKind.u64.wrap (x10)) then (if x5.length < 35184372088832 then (spec_l04Turns.l2 k x0 x1 (x5 ++ [Go.bits .or .u32 x9 (shl .u32 1 (IntKind.u64.wrap (x10)))]) x6 x8 x9 (wrap64 (x10 + 1))) else (none)) else (none)) else (spec_l04Turns.l1 k x0 x1 x5 x6 (wrap64 (x8 + 1))))) else (spec_l04Turns.l1 k x0 x1 x5 x6 (wrap64 (x8 + 1)))
end
def spec_l04Turns.f (k : Nat) (a0 : Int) (a1 : Int) : Option (List Int) := (some (([] : List Int) : List Int)).bind fun y101 => (if 0 ≤ (IntKind.u64.wrap (a1)) then (if a0 = 0 then (if y101.length < 35184372088832 then (some (y101 ++ [shl .u32 1 (IntKind.u64.wrap (a1))])) else (none)) else (if a0 = 4 then (spec_l04Turns.l0 k y101 (shl .u32 1 (IntKind.u64.wrap (a1))) (shl .u32 1 (IntKind.u64.wrap (a1)))) else (if a0 = 1 then (spec_l04Turns.j1 k a0 a1 y101 (shl .u32 1 (IntKind.u64.wrap (a1))) true) else (spec_l04Turns.j1 k a0 a1 y101 (shl .u32 1 (IntKind.u64.wrap (a1))) (a0 == 3))))) else (none))
theorem spec_l04Turns.mono_l : ∀ k, (∀ y0 y1 y2, LeO (spec_l04Turns.l0 k y0 y1 y2) (spec_l04Turns.l0 (k + 1) y0 y1 y2)) ∧ (∀ y0 y1 y2 y3 y4, LeO (spec_l04Turns.j1 k y0 y1 y2 y3 y4) (spec_l04Turns.j1 (k + 1) y0 y1 y2 y3 y4)) ∧ (∀ y0 y1 y2 y3, LeO (spec_l04Turns.j2 k y0 y1 y2 y3) (spec_l04Turns.j2 (k + 1) y0 y1 y2 y3)) ∧ (∀ y0 y1 y2 y3 y4, LeO (spec_l04Turns.l1 k y0 y1 y2 y3 y4) (spec_l04Turns.l1 (k + 1) y0 y1 y2 y3 y4)) ∧ (∀ y0 y1 y2 y3 y4 y5, LeO (spec_l04Turns.j4 k y0 y1 y2 y3 y4 y5) (spec_l04Turns.j4 (k + 1) y0 y1 y2 y3 y4 y5)) ∧ (∀ y0 y1 y2 y3 y4 y5 y6, LeO (spec_l04Turns.l2 k y0 y1 y2 y3 y4 y5 y6) (spec_l04Turns.l2 (k + 1) y0 y1 y2 y3 y4 y5 y6))
  | 0 => ⟨fun _ _ _ r h => by simp [spec_l04Turns.l0] at h, fun _ _ _ _ _ r h => by simp [spec_l04Turns.j1] at h, fun _ _ _ _ r h => by simp [spec_l04Turns.j2] at h, fun _ _ _ _ _ r h => by simp [spec_l04Turns.l1] at h, fun _ _ _ _ _ _ r h => by simp [spec_l04Turns.j4] at h, fun _ _ _ _ _ _ _ r h => by simp [spec_l04Turns.l2] at h⟩
  | k + 1 => by
    obtain ⟨ih0, ih1, ih2, ih3, ih4, ih5⟩ := spec_l04Turns.mono_l k
    refine ⟨?_, ?_, ?_, ?_, ?_, ?_⟩
    · intro y0 y1 y2
      unfold spec_l04Turns.l0
      repeat' first
      | (with_reducible exact ih0 _ _ _)
      | (with_reducible exact ih1 _ _ _ _ _)
      | (with_reducible exact ih2 _ _ _ _)
      | (with_reducible exact ih3 _ _ _ _ _)
      | (with_reducible exact ih4 _ _ _ _ _ _)
      | (with_reducible exact ih5 _ _ _ _ _ _ _)
      | (with_reducible exact LeO.refl _)
      | (with_reducible exact LeO.none _)
      | (with_reducible refine LeO.ite ?_ ?_)
      | (with_reducible refine LeO.bind ?_ (fun _ => ?_))
      | exact ih0 _ _ _
      | exact ih1 _ _ _ _ _
      | exact ih2 _ _ _ _
      | exact ih3 _ _ _ _ _
      | exact ih4 _ _ _ _ _ _
      | exact ih5 _ _ _ _ _ _ _
      | exact LeO.none _
      | refine LeO.ite ?_ ?_
      | refine LeO.bind ?_ (fun _ => ?_)
    · intro y0 y1 y2 y3 y4
      unfold spec_l04Turns.j1
      repeat' first
      | (with_reducible exact ih0 _ _ _)
      | (with_reducible exact ih1 _ _ _ _ _)
      | (with_reducible exact ih2 _ _ _ _)
      | (with_reducible exact ih3 _ _ _ _ _)
      | (with_reducible exact ih4 _ _ _ _ _ _)
      | (with_reducible exact ih5 _ _ _ _ _ _ _)
      | (with_reducible exact LeO.refl _)
      | (with_reducible exact LeO.none _)
      | (with_reducible refine LeO.ite ?_ ?_)
      | (with_reducible refine LeO.bind ?_ (fun _ => ?_))
      | exact ih0 _ _ _
      | exact ih1 _ _ _ _ _
      | exact ih2 _ _ _ _
      | exact ih3 _ _ _ _ _
      | exact ih4 _ _ _ _ _ _
      | exact ih5 _ _ _ _ _ _ _
      | exact LeO.none _
      | refine LeO.ite ?_ ?_
      | refine LeO.bind ?_ (fun _ => ?_)
    · intro y0 y1 y2 y3
      unfold spec_l04Turns.j2
      repeat' first
      | (with_reducible exact ih0 _ _ _)
      | (with_reducible exact ih1 _ _ _ _ _)
      | (with_reducible exact ih2 _ _ _ _)
      | (with_reducible exact ih3 _ _ _ _ _)
      | (with_reducible exact ih4 _ _ _ _ _ _)
      | (with_reducible exact ih5 _ _ _ _ _ _ _)
      | (with_reducible exact LeO.refl _)
      | (with_reducible exact LeO.none _)
      | (with_reducible refine LeO.ite ?_ ?_)
      | (with_reducible refine LeO.bind ?_ (fun _ => ?_))
      | exact ih0 _ _ _
      | exact ih1 _ _ _ _ _
      | exact ih2 _ _ _ _
      | exact ih3 _ _ _ _ _
      | exact ih4 _ _ _ _ _ _
      | exact ih5 _ _ _ _ _ _ _
      | exact LeO.none _
      | refine LeO.ite ?_ ?_
      | refine LeO.bind ?_ (fun _ => ?_)
    · intro y0 y1 y2 y3 y4
      unfold spec_l04Turns.l1
      repeat' first
      | (with_reducible exact ih0 _ _ _)
      | (with_reducible exact ih1 _ _ _ _ _)
      | (with_reducible exact ih2 _ _ _ _)
      | (with_reducible exact ih3 _ _ _ _ _)
      | (with_reducible exact ih4 _ _ _ _ _ _)
      | (with_reducible exact ih5 _ _ _ _ _ _ _)
      | (with_reducible exact LeO.refl _)
      | (with_reducible exact LeO.none _)
      | (with_reducible refine LeO.ite ?_ ?_)
      | (with_reducible refine LeO.bind ?_ (fun _ => ?_))
      | exact ih0 _ _ _
      | exact ih1 _ _ _ _ _
      | exact ih2 _ _ _ _
      | exact ih3 _ _ _ _ _
      | exact ih4 _ _ _ _ _ _
      | exact ih5 _ _ _ _ _ _ _
      | exact LeO.none _
      | refine LeO.ite ?_ ?_
      | refine LeO.bind ?_ (fun _ => ?_)
    · intro y0 y1 y2 y3 y4 y5
      unfold spec_l04Turns.j4
      repeat' first
      | (with_reducible exact ih0 _ _ _)
      | (with_reducible exact ih1 _ _ _ _ _)
      | (with_reducible exact ih2 _ _ _ _)
      | (with_reducible exact ih3 _ _ _ _ _)
      | (with_reducible exact ih4 _ _ _ _ _ _)
      | (with_reducible exact ih5 _ _ _ _ _ _ _)
      | (with_reducible exact LeO.refl _)
      | (with_reducible exact LeO.none _)
      | (with_reducible refine LeO.ite ?_ ?_)
      | (with_reducible refine LeO.bind ?_ (fun _ => ?_))
      | exact ih0 _ _ _
      | exact ih1 _ _ _ _ _
      | exact ih2 _ _ _ _
      | exact ih3 _ _ _ _ _
      | exact ih4 _ _ _ _ _ _
      | exact ih5 _ _ _ _ _ _ _
      | exact LeO.none _
      | refine LeO.ite ?_ ?_
      | refine LeO.bind ?_ (fun _ => ?_)
    · intro y0 y1 y2 y3 y4 y5 y6
      unfold spec_l04Turns.l2
      repeat' first
      | (with_reducible exact ih0 _ _ _)
      | (with_reducible exact ih1 _ _ _ _ _)
      | (with_reducible exact ih2 _ _ _ _)
      | (with_reducible exact ih3 _ _ _ _ _)
      | (with_reducible exact ih4 _ _ _ _ _ _)
      | (with_reducible exact ih5 _ _ _ _ _ _ _)
      | (with_reducible exact LeO.refl _)
      | (with_reducible exact LeO.none _)
      | (with_reducible refine LeO.ite ?_ ?_)
      | (with_reducible refine LeO.bind ?_ (fun _ => ?_))
      | exact ih0 _ _ _
      | exact ih1 _ _ _ _ _
      | exact ih2 _ _ _ _
      | exact ih3 _ _ _ _ _
      | exact ih4 _ _ _ _ _ _
      | exact ih5 _ _ _ _ _ _ _
      | exact LeO.none _
      | refine LeO.ite ?_ ?_
      | refine LeO.bind ?_ (fun _ => ?_)
theorem spec_l04Turns.mono : ∀ a0 a1 k, LeO (spec_l04Turns.f k a0 a1) (spec_l04Turns.f (k + 1) a0 a1) := by
  intro a0 a1 k
  obtain ⟨ih0, ih1, ih2, ih3, ih4, ih5⟩ := spec_l04Turns.mono_l k
  unfold spec_l04Turns.f
  repeat' first
      | (with_reducible exact ih0 _ _ _)
      | (with_reducible exact ih1 _ _ _ _ _)
      | (with_reducible exact ih2 _ _ _ _)
      | (with_reducible exact ih3 _ _ _ _ _)
      | (with_reducible exact ih4 _ _ _ _ _ _)
      | (with_reducible exact ih5 _ _ _ _ _ _ _)
      | (with_reducible exact LeO.refl _)
      | (with_reducible exact LeO.none _)
      | (with_reducible refine LeO.ite ?_ ?_)
      | (with_reducible refine LeO.bind ?_ (fun _ => ?_))
      | exact ih0 _ _ _
      | exact ih1 _ _ _ _ _
      | exact ih2 _ _ _ _
      | exact ih3 _ _ _ _ _
      | exact ih4 _ _ _ _ _ _
      | exact ih5 _ _ _ _ _ _ _
      | exact LeO.none _
      | refine LeO.ite ?_ ?_
      | refine LeO.bind ?_ (fun _ => ?_)
set_option maxHeartbeats 8000000 in
set_option maxRecDepth 100000 in
theorem spec_l04Turns.calls (k : Nat) (a0 : Int) (a1 : Int) (r : List Int) (w : World) (h : spec_l04Turns.f k a0 a1 = some r) :
    Calls Tryd.prog 23 #[.int .i64 a0, .int .i64 a1] w fun e w' => ∃ v0_ : Value, e = .returned (v0_) ∧ Kd.R (Kd.int .u32) 33 w' w.heap.size (fun _ => True) v0_ r ∧ Below w.heap.size w w' := by
  have HB := Aside0.mk (Below.refl w.heap.size w)
  have H : ((some (([] : List Int) : List Int)).bind fun y101 => (if 0 ≤ (IntKind.u64.wrap (a1)) then (if a0 = 0 then (if y101.length < 35184372088832 then (some (y101 ++ [shl .u32 1 (IntKind.u64.wrap (a1))])) else (none)) else (if a0 = 4 then (spec_l04Turns.l0 k y101 (shl .u32 1 (IntKind.u64.wrap (a1))) (shl .u32 1 (IntKind.u64.wrap (a1)))) else (if a0 = 1 then (spec_l04Turns.j1 k a0 a1 y101 (shl .u32 1 (IntKind.u64.wrap (a1))) true) else (spec_l04Turns.j1 k a0 a1 y101 (shl .u32 1 (IntKind.u64.wrap (a1))) (a0 == 3))))) else (none))) = some r := h
  clear h
  obtain ⟨y101, hy101⟩ : ∃ y_ : List Int, y_ = (([] : List Int)) := ⟨_, rfl⟩
  replace H : (if 0 ≤ (IntKind.u64.wrap (a1)) then (if a0 = 0 then (if y101.length < 35184372088832 then (some (y101 ++ [shl .u32 1 (IntKind.u64.wrap (a1))])) else (none)) else (if a0 = 4 then (spec_l04Turns.l0 k y101 (shl .u32 1 (IntKind.u64.wrap (a1))) (shl .u32 1 (IntKind.u64.wrap (a1)))) else (if a0 = 1 then (spec_l04Turns.j1 k a0 a1 y101 (shl .u32 1 (IntKind.u64.wrap (a1))) true) else (spec_l04Turns.j1 k a0 a1 y101 (shl .u32 1 (IntKind.u64.wrap (a1))) (a0 == 3))))) else (none)) = some r := by first | (rw [hy101]; with_reducible exact H) | (have H2_ := (Option.bind_some _ _).symm.trans H; rw [hy101]; with_reducible exact H2_) | (have H2_ := (Option.bind_some _ _).symm.trans H; with_reducible exact H2_) | with_reducible exact H | (rw [hy101]; exact H) | exact H
  have Ny101 := Aside0.mk hy101
  clear hy101
  obtain ⟨ji3, hji3⟩ : ∃ j_ : Int, (IntKind.u64.wrap (a1)) = j_ := ⟨_, rfl⟩
  replace H : (if 0 ≤ (ji3) then (if a0 = 0 then (if y101.length < 35184372088832 then (some (y101 ++ [shl .u32 1 (ji3)])) else (none)) else (if a0 = 4 then (spec_l04Turns.l0 k y101 (shl .u32 1 (ji3)) (shl .u32 1 (ji3))) else (if a0 = 1 then (spec_l04Turns.j1 k a0 a1 y101 (shl .u32 1 (ji3)) true) else (spec_l04Turns.j1 k a0 a1 y101 (shl .u32 1 (ji3)) (a0 == 3))))) else (none)) = some r := by first | (rw [hji3] at H; exact H) | (simp only [hji3] at H ⊢; exact H)
  by_cases c4 : 0 ≤ (ji3)
  · rw [if_pos c4] at H
    have c4b0 := eq_true c4
    have c4b1 : decide (0 ≤ (ji3)) = true := decide_eq_true c4
    clear c4
    obtain ⟨ji5, hji5⟩ : ∃ j_ : Int, (shl .u32 1 (ji3)) = j_ := ⟨_, rfl⟩
    replace H : (if a0 = 0 then (if y101.length < 35184372088832 then (some (y101 ++ [ji5])) else (none)) else (if a0 = 4 then (spec_l04Turns.l0 k y101 ji5 ji5) else (if a0 = 1 then (spec_l04Turns.j1 k a0 a1 y101 ji5 true) else (spec_l04Turns.j1 k a0 a1 y101 ji5 (a0 == 3))))) = some r := by first | (rw [hji5] at H; exact H) | (simp only [hji5] at H ⊢; exact H)
    have hji5_ : (IntKind.u32.wrap (1 * 2 ^ min (ji3).toNat 32)) = ji5 := hji5
    have hji5z : (ji3) ≤ 32 → (IntKind.u32.wrap (1 * 2 ^ (ji3).toNat)) = ji5 := shl_small hji5
    have hji5n : 0 ≤ (ji5) := by rw [← hji5]; simp only [shl, IntKind.wrap, IntKind.signed, IntKind.bits, Bool.false_and, Bool.false_eq_true, if_false]; exact Int.emod_nonneg _ (by decide)
    have hji5n0 := eq_true hji5n
    have hji5n1 : decide (0 ≤ (ji5)) = true := decide_eq_true hji5n
    clear hji5n
    have hji5u : (IntKind.u32.wrap (2 ^ min (ji3).toNat 32)) = ji5 := by have h_ := hji5_; rw [Int.one_mul] at h_; exact h_
    have hji5v : (ji3) ≤ 32 → (IntKind.u32.wrap (2 ^ (ji3).toNat)) = ji5 := fun hle_ => by have h_ := hji5z hle_; rw [Int.one_mul] at h_; exact h_
    by_cases c6 : a0 = 0
    · rw [if_pos c6] at H
      have c6b0 : (a0 == 0) = true := beq_iff_eq.mpr c6
      have c6b1 : (a0 != 0) = false := bne_eq_false_iff_eq.mpr c6
      clear c6
      by_cases c7 : y101.length < 35184372088832
      · rw [if_pos c7] at H
        have LMc7 := Aside0.mk c7
        clear c7
        obtain ⟨y104, hy104⟩ : ∃ y_ : List Int, y_ = (y101 ++ [ji5]) := ⟨_, rfl⟩
        replace H : (some y104) = some r := by first | (rw [hy104]; with_reducible exact H) | (have H2_ := (Option.bind_some _ _).symm.trans H; rw [hy104]; with_reducible exact H2_) | (have H2_ := (Option.bind_some _ _).symm.trans H; with_reducible exact H2_) | with_reducible exact H | (rw [hy104]; exact H) | exact H
        have Ny104 := Aside0.mk hy104
        clear hy104
        obtain rfl := Option.some.inj H
        go_enter Tryd.func23, Tryd.ntmps23
        go_wp2_with (first | ((with_reducible refine gate_dst (N := 11) rfl ?_); refine Kd.R_lit (Kd.int .u32) _ 33 ?hg (N := 11) ?hd (xs := ([] : List Int)) (inner := []) (ok := fun _ => True) (okp := fun _ => True) ?hr ?hp (fun _ hk => hk) trivial (Below.refl _ _) (Nat.le_refl _) (by simp) ?_; (case hd => rfl); (case hg => rfl); (case hr => first | (go_simp; done) | (go_simp; rfl)); (case hp => exact (Reps.none _ _)); intro v102 w8 ho9 hb hg_ hnew_; clear hg_ hnew_; (first | rw [← Ny101.out] at ho9 | (simp only [Int.reduceToNat] at ho9; rw [← Ny101.out] at ho9)); have n0_ := Aside0.mk (Kd.R_lower ho9 (below_size (by repeat (first | (with_reducible first | exact HB.out | apply below_alloc | apply pw_below_drewN | apply below_drew1) | exact HB.out)))); have n1_ := Aside0.mk (below_step (by repeat (first | (with_reducible first | exact HB.out | apply below_alloc | apply pw_below_drewN | apply below_drew1) | exact HB.out)) hb); clear HB; have HO103 := n0_; have HB := n1_; clear n0_ n1_; clear hb ho9) | ((with_reducible refine gate_builtin (b := .append) (xs := #[.tmp 65, .tmp 67]) rfl ?_); at_builtin; refine Kd.R_append (Kd.int .u32) (w0 := w) w.heap.size rfl (.tmp 65) (.tmp 67) 22 33 (.int .u32 0) 4 rfl Tryd.underlying22 info33 rfl (by decide) (by omega) v102 y101 ji5 [.int .u32 ji5] (fun _ => True) (fun _ => False) rfl rfl ?aP (fun _ hk => hk.elim) ?aF ?aO ?aB ?aS ?aL ?_; (case aP => exact rfl); (case aB => exact (by repeat (first | (with_reducible first | exact HB.out | apply below_alloc | apply pw_below_drewN | apply below_drew1) | exact HB.out))); (case aF => exact (fun _ _ => trivial)); (case aO => exact (by (with_reducible repeat (first | apply Kd.R_alloc | apply Kd.R_drewN | apply Kd.R_drew)); exact HO103.out)); (case aS => exact (below_size (by repeat (first | (with_reducible first | exact HB.out | apply below_alloc | apply pw_below_drewN | apply below_drew1) | exact HB.out)))); (case aL => have := LMc7.out; omega); intro v105 w10 ho hb hg hat; rw [← Ny104.out] at ho; have n0_ := Aside0.mk (hb); have n1_ := Aside0.mk (ho); clear HB; clear HO103; have HB := n0_; have HO106 := n1_; clear n0_ n1_; clear ho hb hg hat))
        go_ret
        exact ⟨_, by first | rfl | (simp [errW_none, errW_some] <;> rfl) | (simp only [← hji3, ← hji5]; first | rfl | (simp [errW_none, errW_some] <;> rfl)) | (simp [*, errW_none, errW_some] <;> rfl), by (with_reducible repeat (first | apply Kd.R_alloc | apply Kd.R_drewN | apply Kd.R_drew)); exact HO106.out, by repeat (first | (with_reducible first | exact HB.out | apply below_alloc | apply pw_below_drewN | apply below_drew1) | exact HB.out)⟩
      · rw [if_neg c7] at H
        exact absurd H (by simp)
    · rw [if_neg c6] at H
      have c6b0 : (a0 == 0) = false := beq_eq_false_iff_ne.mpr c6
      have c6b1 : (a0 != 0) = true := bne_iff_ne.mpr c6
      by_cases c11 : a0 = 4
      · rw [if_pos c11] at H
        have c11b0 : (a0 == 4) = true := beq_iff_eq.mpr c11
        have c11b1 : (a0 != 4) = false := bne_eq_false_iff_eq.mpr c11
        clear c11
        have H' := Aside0.mk H
        clear H
        go_enter Tryd.func23, Tryd.ntmps23
        go_wp2_with (first | ((with_reducible refine gate_dst (N := 11) rfl ?_); refine Kd.R_lit (Kd.int .u32) _ 33 ?hg (N := 11) ?hd (xs := ([] : List Int)) (inner := []) (ok := fun _ => True) (okp := fun _ => True) ?hr ?hp (fun _ hk => hk) trivial (Below.refl _ _) (Nat.le_refl _) (by simp) ?_; (case hd => rfl); (case hg => rfl); (case hr => first | (go_simp; done) | (go_simp; rfl)); (case hp => exact (Reps.none _ _)); intro v102 w12 ho13 hb hg_ hnew_; clear hg_ hnew_; (first | rw [← Ny101.out] at ho13 | (simp only [Int.reduceToNat] at ho13; rw [← Ny101.out] at ho13)); have n0_ := Aside0.mk (Kd.R_lower ho13 (below_size (by repeat (first | (with_reducible first | exact HB.out | apply below_alloc | apply pw_below_drewN | apply below_drew1) | exact HB.out)))); have n1_ := Aside0.mk (below_step (by repeat (first | (with_reducible first | exact HB.out | apply below_alloc | apply pw_below_drewN | apply below_drew1) | exact HB.out)) hb); clear HB; have HO103 := n0_; have HB := n1_; clear n0_ n1_; clear hb ho13))
        go_loopg [5, 7] k (fun kq v5 v7 w' => ∃ (x5_1 : List Int) (x7_1 : Int), v7 = .int .u32 x7_1 ∧ Aside0 (spec_l04Turns.l0 kq x5_1 ji5 x7_1 = some r) ∧ Aside0 (kq ≤ k) ∧ Aside0 (Kd.R (Kd.int .u32) 33 w' w.heap.size (fun _ => True) v5 x5_1) ∧ Aside0 (Below w.heap.size w w'))
        case atStart => exact ⟨(y101), (ji5), (by first | rfl | (simp; done) | (simp only [← hji5] <;> (first | rfl | simp)) | (simp [*]; done)), H', ⟨Nat.le_refl _⟩, ⟨by (with_reducible repeat (first | apply Kd.R_alloc | apply Kd.R_drewN | apply Kd.R_drew)); exact HO103.out⟩, ⟨by repeat (first | (with_reducible first | exact HB.out | apply below_alloc | apply pw_below_drewN | apply below_drew1) | exact HB.out)⟩⟩
        case round =>
          clear H'
          try clear c1
          try clear c2
          try clear p2
          try clear c4
          try clear c4b0
          try clear c4b1
          try clear c6
          try clear c6b0
          try clear c6b1
          try clear c7
          try clear c11
          try clear c11b0
          try clear c11b1
          obtain ⟨x5_1, x7_1, rfl, HA, HK1, HO_5, HB⟩ := hrel
          cases gk with
          | zero => exact absurd HA.out (by simp [spec_l04Turns.l0])
          | succ k1 =>
            have H := HA.out
            clear HA
            simp only [spec_l04Turns.l0] at H
            by_cases c14 : x7_1 = 0
            · rw [if_pos c14] at H
              have c14b0 : (x7_1 == 0) = true := beq_iff_eq.mpr c14
              have c14b1 : (x7_1 != 0) = false := bne_eq_false_iff_eq.mpr c14
              clear c14
              obtain rfl := Option.some.inj H
              go_wp2
              go_ret
              exact ⟨_, by first | rfl | (simp [errW_none, errW_some] <;> rfl) | (simp only [← hji3, ← hji5]; first | rfl | (simp [errW_none, errW_some] <;> rfl)) | (simp [*, errW_none, errW_some] <;> rfl), by (with_reducible repeat (first | apply Kd.R_alloc | apply Kd.R_drewN | apply Kd.R_drew)); exact HO_5.out, by repeat (first | (with_reducible first | exact HB.out | apply below_alloc | apply pw_below_drewN | apply below_drew1) | exact HB.out)⟩
            · rw [if_neg c14] at H
              have c14b0 : (x7_1 == 0) = false := beq_eq_false_iff_ne.mpr c14
              have c14b1 : (x7_1 != 0) = true := bne_iff_ne.mpr c14
              by_cases c15 : x5_1.length < 35184372088832
              · rw [if_pos c15] at H
                have LMc15 := Aside0.mk c15
                clear c15
                obtain ⟨y107, hy107⟩ : ∃ y_ : List Int, y_ = (x5_1 ++ [x7_1]) := ⟨_, rfl⟩
                replace H : (if (Go.bits .and .u32 x7_1 1) = 1 then (some y107) else (spec_l04Turns.l0 k1 y107 ji5 (Go.bits .and .u32 (Go.bits .or .u32 x7_1 (x7_1 / 2)) ((((ji5 * 2) % 4294967296) - 1) % 4294967296)))) = some r := by first | (rw [hy107]; with_reducible exact H) | (have H2_ := (Option.bind_some _ _).symm.trans H; rw [hy107]; with_reducible exact H2_) | (have H2_ := (Option.bind_some _ _).symm.trans H; with_reducible exact H2_) | with_reducible exact H | (rw [hy107]; exact H) | exact H
                have Ny107 := Aside0.mk hy107
                clear hy107
                by_cases c16 : (Go.bits .and .u32 x7_1 1) = 1
                · rw [if_pos c16] at H
                  have c16b0 : ((Go.bits .and .u32 x7_1 1) == 1) = true := beq_iff_eq.mpr c16
                  have c16b1 : ((Go.bits .and .u32 x7_1 1) != 1) = false := bne_eq_false_iff_eq.mpr c16
                  clear c16
                  obtain rfl := Option.some.inj H
                  go_wp2_with (first | ((with_reducible refine gate_builtin (b := .append) (xs := #[.tmp 82, .tmp 84]) rfl ?_); at_builtin; refine Kd.R_append (Kd.int .u32) (w0 := w) w.heap.size rfl (.tmp 82) (.tmp 84) 22 33 (.int .u32 0) 4 rfl Tryd.underlying22 info33 rfl (by decide) (by omega) u5 x5_1 x7_1 [.int .u32 x7_1] (fun _ => True) (fun _ => False) rfl rfl ?aP (fun _ hk => hk.elim) ?aF ?aO ?aB ?aS ?aL ?_; (case aP => exact rfl); (case aB => exact (by repeat (first | (with_reducible first | exact HB.out | apply below_alloc | apply pw_below_drewN | apply below_drew1) | exact HB.out))); (case aF => exact (fun _ _ => trivial)); (case aO => exact (by (with_reducible repeat (first | apply Kd.R_alloc | apply Kd.R_drewN | apply Kd.R_drew)); exact HO_5.out)); (case aS => exact (below_size (by repeat (first | (with_reducible first | exact HB.out | apply below_alloc | apply pw_below_drewN | apply below_drew1) | exact HB.out)))); (case aL => have := LMc15.out; omega); intro v108 w17 ho hb hg hat; rw [← Ny107.out] at ho; have n0_ := Aside0.mk (hb); have n1_ := Aside0.mk (ho); clear HB; clear HO_5; have HB := n0_; have HO109 := n1_; clear n0_ n1_; clear ho hb hg hat))
                  go_ret
                  exact ⟨_, by first | rfl | (simp [errW_none, errW_some] <;> rfl) | (simp only [← hji3, ← hji5]; first | rfl | (simp [errW_none, errW_some] <;> rfl)) | (simp [*, errW_none, errW_some] <;> rfl), by (with_reducible repeat (first | apply Kd.R_alloc | apply Kd.R_drewN | apply Kd.R_drew)); exact HO109.out, by repeat (first | (with_reducible first | exact HB.out | apply below_alloc | apply pw_below_drewN | apply below_drew1) | exact HB.out)⟩
                · rw [if_neg c16] at H
                  have c16b0 : ((Go.bits .and .u32 x7_1 1) == 1) = false := beq_eq_false_iff_ne.mpr c16
                  have c16b1 : ((Go.bits .and .u32 x7_1 1) != 1) = true := bne_iff_ne.mpr c16
                  have H' := Aside0.mk H
                  clear H
                  go_wp2_with (first | ((with_reducible refine gate_builtin (b := .append) (xs := #[.tmp 82, .tmp 84]) rfl ?_); at_builtin; refine Kd.R_append (Kd.int .u32) (w0 := w) w.heap.size rfl (.tmp 82) (.tmp 84) 22 33 (.int .u32 0) 4 rfl Tryd.underlying22 info33 rfl (by decide) (by omega) u5 x5_1 x7_1 [.int .u32 x7_1] (fun _ => True) (fun _ => False) rfl rfl ?aP (fun _ hk => hk.elim) ?aF ?aO ?aB ?aS ?aL ?_; (case aP => exact rfl); (case aB => exact (by repeat (first | (with_reducible first | exact HB.out | apply below_alloc | apply pw_below_drewN | apply below_drew1) | exact HB.out))); (case aF => exact (fun _ _ => trivial)); (case aO => exact (by (with_reducible repeat (first | apply Kd.R_alloc | apply Kd.R_drewN | apply Kd.R_drew)); exact HO_5.out)); (case aS => exact (below_size (by repeat (first | (with_reducible first | exact HB.out | apply below_alloc | apply pw_below_drewN | apply below_drew1) | exact HB.out)))); (case aL => have := LMc15.out; omega); intro v108 w18 ho hb hg hat; rw [← Ny107.out] at ho; have n0_ := Aside0.mk (hb); have n1_ := Aside0.mk (ho); clear HB; clear HO_5; have HB := n0_; have HO109 := n1_; clear n0_ n1_; clear ho hb hg hat))
                  go_roundg k1
                  case measure => have := HK1.out; omega
                  case rel => exact ⟨(y107), (Go.bits .and .u32 (Go.bits .or .u32 x7_1 (x7_1 / 2)) ((((ji5 * 2) % 4294967296) - 1) % 4294967296)), (by first | rfl | (simp; done) | (simp only [← hji5] <;> (first | rfl | simp)) | (simp [*]; done)), H', ⟨by have := HK1.out; omega⟩, ⟨by (with_reducible repeat (first | apply Kd.R_alloc | apply Kd.R_drewN | apply Kd.R_drew)); exact HO109.out⟩, ⟨by repeat (first | (with_reducible first | exact HB.out | apply below_alloc | apply pw_below_drewN | apply below_drew1) | exact HB.out)⟩⟩
              · rw [if_neg c15] at H
                exact absurd H (by simp)
      · rw [if_neg c11] at H
        have c11b0 : (a0 == 4) = false := beq_eq_false_iff_ne.mpr c11
        have c11b1 : (a0 != 4) = true := bne_iff_ne.mpr c11
        have HC19 := Aside0.mk H
        clear H
        go_enter Tryd.func23, Tryd.ntmps23
        go_upto_region 4 with (first | ((with_reducible refine gate_dst (N := 11) rfl ?_); refine Kd.R_lit (Kd.int .u32) _ 33 ?hg (N := 11) ?hd (xs := ([] : List Int)) (inner := []) (ok := fun _ => True) (okp := fun _ => True) ?hr ?hp (fun _ hk => hk) trivial (Below.refl _ _) (Nat.le_refl _) (by simp) ?_; (case hd => rfl); (case hg => rfl); (case hr => first | (go_simp; done) | (go_simp; rfl)); (case hp => exact (Reps.none _ _)); intro v102 w20 ho21 hb hg_ hnew_; clear hg_ hnew_; (first | rw [← Ny101.out] at ho21 | (simp only [Int.reduceToNat] at ho21; rw [← Ny101.out] at ho21)); have n0_ := Aside0.mk (Kd.R_lower ho21 (below_size (by repeat (first | (with_reducible first | exact HB.out | apply below_alloc | apply pw_below_drewN | apply below_drew1) | exact HB.out)))); have n1_ := Aside0.mk (below_step (by repeat (first | (with_reducible first | exact HB.out | apply below_alloc | apply pw_below_drewN | apply below_drew1) | exact HB.out)) hb); clear HB; have HO103 := n0_; have HB := n1_; clear n0_ n1_; clear hb ho21))
        (try simp only [Act.put, List.setIfInBounds_toArray, List.set_cons_zero, List.set_cons_succ])
        go_cut [21] (fun v21 wc => ∃ (kq : Nat) (x21_18 : Bool), v21 = .bool x21_18 ∧ Aside0 (spec_l04Turns.j1 kq a0 a1 y101 ji5 x21_18 = some r) ∧ Aside0 (kq ≤ k) ∧ Aside0 (Kd.R (Kd.int .u32) 33 wc w.heap.size (fun _ => True) v102 y101) ∧ Aside0 (Below w.heap.size w wc))
        case first =>
          have H := HC19.out
          clear HC19
          by_cases c22 : a0 = 1
          · rw [if_pos c22] at H
            have c22b0 : (a0 == 1) = true := beq_iff_eq.mpr c22
            have c22b1 : (a0 != 1) = false := bne_eq_false_iff_eq.mpr c22
            clear c22
            (first | rw [c22b0] | (simp only [i64_w, i32_w]; rw [c22b0]) | skip)
            have H' := Aside0.mk H
            clear H
            go_wp2
            go_meet
            case rel => exact ⟨_, (true), (by first | rfl | (simp; done) | (simp [*]; done)), H', ⟨by first | omega | exact Nat.le_refl _⟩, ⟨by (with_reducible repeat (first | apply Kd.R_alloc | apply Kd.R_drewN | apply Kd.R_drew)); exact HO103.out⟩, ⟨by repeat (first | (with_reducible first | exact HB.out | apply below_alloc | apply pw_below_drewN | apply below_drew1) | exact HB.out)⟩⟩
          · rw [if_neg c22] at H
            have c22b0 : (a0 == 1) = false := beq_eq_false_iff_ne.mpr c22
            have c22b1 : (a0 != 1) = true := bne_iff_ne.mpr c22
            (first | rw [c22b0] | (simp only [i64_w, i32_w]; rw [c22b0]) | skip)
            have H' := Aside0.mk H
            clear H
            go_wp2
            go_meet
            case rel => exact ⟨_, ((a0 == 3)), (by first | rfl | (simp; done) | (simp [*]; done)), H', ⟨by first | omega | exact Nat.le_refl _⟩, ⟨by (with_reducible repeat (first | apply Kd.R_alloc | apply Kd.R_drewN | apply Kd.R_drew)); exact HO103.out⟩, ⟨by repeat (first | (with_reducible first | exact HB.out | apply below_alloc | apply pw_below_drewN | apply below_drew1) | exact HB.out)⟩⟩
        case rest =>
          clear HC19
          try clear c1
          try clear c2
          try clear p2
          try clear c4
          try clear c4b0
          try clear c4b1
          try clear c6
          try clear c6b0
          try clear c6b1
          try clear c7
          try clear c11
          try clear c11b0
          try clear c11b1
          try clear c14
          try clear c14b0
          try clear c14b1
          try clear c15
          try clear c16
          try clear c16b0
          try clear c16b1
          try clear c22
          try clear c22b0
          try clear c22b1
          try clear p2
          obtain ⟨kq, x21_18, rfl, HA, HJ18, HO_5, HB⟩ := hcut
          cases kq with
          | zero => exact absurd HA.out (by simp [spec_l04Turns.j1])
          | succ kj18 =>
            have H := HA.out
            clear HA
            simp only [spec_l04Turns.j1] at H
            have HC23 := Aside0.mk H
            clear H
            go_upto_if 21 with (fail)
            go_cut [5] (fun v5 wc => ∃ (kq : Nat) (x5_22 : List Int), Aside0 (spec_l04Turns.j2 kq a0 a1 x5_22 ji5 = some r) ∧ Aside0 (kq ≤ kj18) ∧ Aside0 (Kd.R (Kd.int .u32) 33 wc w.heap.size (fun _ => True) v5 x5_22) ∧ Aside0 (Below w.heap.size w wc))
            case first =>
              have H := HC23.out
              clear HC23
              by_cases c24 : x21_18 = true
              · subst c24
                have H1 : (if y101.length < 35184372088832 then (spec_l04Turns.j2 kj18 a0 a1 (y101 ++ [ji5]) ji5) else (none)) = some r := by rw [if_pos rfl] at H; exact H
                clear H
                have H := H1
                clear H1
                by_cases c25 : y101.length < 35184372088832
                · rw [if_pos c25] at H
                  have LMc25 := Aside0.mk c25
                  clear c25
                  obtain ⟨y110, hy110⟩ : ∃ y_ : List Int, y_ = (y101 ++ [ji5]) := ⟨_, rfl⟩
                  replace H : (spec_l04Turns.j2 kj18 a0 a1 y110 ji5) = some r := by first | (rw [hy110]; with_reducible exact H) | (have H2_ := (Option.bind_some _ _).symm.trans H; rw [hy110]; with_reducible exact H2_) | (have H2_ := (Option.bind_some _ _).symm.trans H; with_reducible exact H2_) | with_reducible exact H | (rw [hy110]; exact H) | exact H
                  have Ny110 := Aside0.mk hy110
                  clear hy110
                  have H' := Aside0.mk H
                  clear H
                  go_wp2_with (first | ((with_reducible refine gate_builtin (b := .append) (xs := #[.tmp 22, .tmp 24]) rfl ?_); at_builtin; refine Kd.R_append (Kd.int .u32) (w0 := w) w.heap.size rfl (.tmp 22) (.tmp 24) 22 33 (.int .u32 0) 4 rfl Tryd.underlying22 info33 rfl (by decide) (by omega) v102 y101 ji5 [.int .u32 ji5] (fun _ => True) (fun _ => False) rfl rfl ?aP (fun _ hk => hk.elim) ?aF ?aO ?aB ?aS ?aL ?_; (case aP => exact rfl); (case aB => exact (by repeat (first | (with_reducible first | exact HB.out | apply below_alloc | apply pw_below_drewN | apply below_drew1) | exact HB.out))); (case aF => exact (fun _ _ => trivial)); (case aO => exact (by (with_reducible repeat (first | apply Kd.R_alloc | apply Kd.R_drewN | apply Kd.R_drew)); exact HO_5.out)); (case aS => exact (below_size (by repeat (first | (with_reducible first | exact HB.out | apply below_alloc | apply pw_below_drewN | apply below_drew1) | exact HB.out)))); (case aL => have := LMc25.out; omega); intro v111 w26 ho hb hg hat; rw [← Ny110.out] at ho; have n0_ := Aside0.mk (hb); have n1_ := Aside0.mk (ho); clear HB; clear HO_5; have HB := n0_; have HO112 := n1_; clear n0_ n1_; clear ho hb hg hat))
                  go_meet
                  case rel => exact ⟨_, (y110), H', ⟨by have := HJ18.out; first | omega | exact Nat.le_refl _⟩, ⟨by (with_reducible repeat (first | apply Kd.R_alloc | apply Kd.R_drewN | apply Kd.R_drew)); exact HO112.out⟩, ⟨by repeat (first | (with_reducible first | exact HB.out | apply below_alloc | apply pw_below_drewN | apply below_drew1) | exact HB.out)⟩⟩
                · rw [if_neg c25] at H
                  exact absurd H (by simp)
              · replace c24 := Bool.eq_false_iff.mpr c24
                subst c24
                have H1 : (spec_l04Turns.j2 kj18 a0 a1 y101 ji5) = some r := by rw [if_neg (show ¬ (false = true) by decide)] at H; exact H
                clear H
                have H := H1
                clear H1
                have H' := Aside0.mk H
                clear H
                go_wp2
                go_meet
                case rel => exact ⟨_, (y101), H', ⟨by have := HJ18.out; first | omega | exact Nat.le_refl _⟩, ⟨by (with_reducible repeat (first | apply Kd.R_alloc | apply Kd.R_drewN | apply Kd.R_drew)); exact HO_5.out⟩, ⟨by repeat (first | (with_reducible first | exact HB.out | apply below_alloc | apply pw_below_drewN | apply below_drew1) | exact HB.out)⟩⟩
            case rest =>
              clear HC23
              try clear c1
              try clear c2
              try clear p2
              try clear c4
              try clear c4b0
              try clear c4b1
              try clear c6
              try clear c6b0
              try clear c6b1
              try clear c7
              try clear c11
              try clear c11b0
              try clear c11b1
              try clear c14
              try clear c14b0
              try clear c14b1
              try clear c15
              try clear c16
              try clear c16b0
              try clear c16b1
              try clear c22
              try clear c22b0
              try clear c22b1
              try clear c23
              try clear c24
              try clear c25
              try clear p2
              obtain ⟨kq, x5_22, HA, HJ22, HO_5, HB⟩ := hcut
              cases kq with
              | zero => exact absurd HA.out (by simp [spec_l04Turns.j2])
              | succ kj22 =>
                have H := HA.out
                clear HA
                simp only [spec_l04Turns.j2] at H
                have H' := Aside0.mk H
                clear H
                go_wp2
                go_loopg [5, 8] kj22 (fun kq v5 v8 w' => ∃ (x5_3 : List Int) (x8_3 : Int), v8 = .int .i64 x8_3 ∧ Aside0 (spec_l04Turns.l1 kq a0 a1 x5_3 ji5 x8_3 = some r) ∧ Aside0 (kq ≤ kj22) ∧ Aside0 (Kd.R (Kd.int .u32) 33 w' w.heap.size (fun _ => True) v5 x5_3) ∧ Aside0 (Below w.heap.size w w'))
                case atStart => exact ⟨(x5_22), (0), (by first | rfl | (simp; done) | (simp [*]; done)), H', ⟨Nat.le_refl _⟩, ⟨by (with_reducible repeat (first | apply Kd.R_alloc | apply Kd.R_drewN | apply Kd.R_drew)); exact HO_5.out⟩, ⟨by repeat (first | (with_reducible first | exact HB.out | apply below_alloc | apply pw_below_drewN | apply below_drew1) | exact HB.out)⟩⟩
                case round =>
                  clear H'
                  try clear c1
                  try clear c2
                  try clear p2
                  try clear c4
                  try clear c4b0
                  try clear c4b1
                  try clear c6
                  try clear c6b0
                  try clear c6b1
                  try clear c7
                  try clear c11
                  try clear c11b0
                  try clear c11b1
                  try clear c14
                  try clear c14b0
                  try clear c14b1
                  try clear c15
                  try clear c16
                  try clear c16b0
                  try clear c16b1
                  try clear c22
                  try clear c22b0
                  try clear c22b1
                  try clear c23
                  try clear c24
                  try clear c25
                  try clear p2
                  obtain ⟨x5_3, x8_3, rfl, HA, HK3, HO_5, HB⟩ := hrel
                  cases gk with
                  | zero => exact absurd HA.out (by simp [spec_l04Turns.l1])
                  | succ k3 =>
                    have H := HA.out
                    clear HA
                    simp only [spec_l04Turns.l1] at H
                    by_cases c27 : x8_3 < a1
                    · rw [if_pos c27] at H
                      have c27b0 : decide (x8_3 < a1) = true := decide_eq_true c27
                      clear c27
                      obtain ⟨ji28, hji28⟩ : ∃ j_ : Int, (IntKind.u64.wrap (x8_3)) = j_ := ⟨_, rfl⟩
                      replace H : (if 0 ≤ (ji28) then (if a0 = 5 then (spec_l04Turns.j4 k3 a0 a1 x5_3 ji5 x8_3 (Go.bits .or .u32 ji5 (shl .u32 1 (ji28)))) else (if x5_3.length < 35184372088832 then (spec_l04Turns.j4 k3 a0 a1 (x5_3 ++ [Go.bits .or .u32 ji5 (shl .u32 1 (ji28))]) ji5 x8_3 (Go.bits .or .u32 ji5 (shl .u32 1 (ji28)))) else (none))) else (none)) = some r := by first | (rw [hji28] at H; exact H) | (simp only [hji28] at H ⊢; exact H)
                      by_cases c29 : 0 ≤ (ji28)
                      · rw [if_pos c29] at H
                        have c29b0 := eq_true c29
                        have c29b1 : decide (0 ≤ (ji28)) = true := decide_eq_true c29
                        clear c29
                        obtain ⟨ji30, hji30⟩ : ∃ j_ : Int, (shl .u32 1 (ji28)) = j_ := ⟨_, rfl⟩
                        replace H : (if a0 = 5 then (spec_l04Turns.j4 k3 a0 a1 x5_3 ji5 x8_3 (Go.bits .or .u32 ji5 (ji30))) else (if x5_3.length < 35184372088832 then (spec_l04Turns.j4 k3 a0 a1 (x5_3 ++ [Go.bits .or .u32 ji5 (ji30)]) ji5 x8_3 (Go.bits .or .u32 ji5 (ji30))) else (none))) = some r := by first | (rw [hji30] at H; exact H) | (simp only [hji30] at H ⊢; exact H)
                        have hji30_ : (IntKind.u32.wrap (1 * 2 ^ min (ji28).toNat 32)) = ji30 := hji30
                        have hji30z : (ji28) ≤ 32 → (IntKind.u32.wrap (1 * 2 ^ (ji28).toNat)) = ji30 := shl_small hji30
                        have hji30n : 0 ≤ (ji30) := by rw [← hji30]; simp only [shl, IntKind.wrap, IntKind.signed, IntKind.bits, Bool.false_and, Bool.false_eq_true, if_false]; exact Int.emod_nonneg _ (by decide)
                        have hji30n0 := eq_true hji30n
                        have hji30n1 : decide (0 ≤ (ji30)) = true := decide_eq_true hji30n
                        clear hji30n
                        have hji30u : (IntKind.u32.wrap (2 ^ min (ji28).toNat 32)) = ji30 := by have h_ := hji30_; rw [Int.one_mul] at h_; exact h_
                        have hji30v : (ji28) ≤ 32 → (IntKind.u32.wrap (2 ^ (ji28).toNat)) = ji30 := fun hle_ => by have h_ := hji30z hle_; rw [Int.one_mul] at h_; exact h_
                        have HC31 := Aside0.mk H
                        clear H
                        go_upto_if 37 with (fail)
                        go_cut [5] (fun v5 wc => ∃ (kq : Nat) (x5_30 : List Int), Aside0 (spec_l04Turns.j4 kq a0 a1 x5_30 ji5 x8_3 (Go.bits .or .u32 ji5 (ji30)) = some r) ∧ Aside0 (kq ≤ k3) ∧ Aside0 (Kd.R (Kd.int .u32) 33 wc w.heap.size (fun _ => True) v5 x5_30) ∧ Aside0 (Below w.heap.size w wc))
                        case first =>
                          have H := HC31.out
                          clear HC31
                          by_cases c32 : a0 = 5
                          · rw [if_pos c32] at H
                            have c32b0 : (a0 == 5) = true := beq_iff_eq.mpr c32
                            have c32b1 : (a0 != 5) = false := bne_eq_false_iff_eq.mpr c32
                            clear c32
                            (first | rw [c32b0] | (simp only [i64_w, i32_w]; rw [c32b0]) | skip)
                            have H' := Aside0.mk H
                            clear H
                            go_wp2
                            go_meet
                            case rel => exact ⟨_, (x5_3), H', ⟨by have := HJ18.out; have := HJ22.out; have := HK3.out; first | omega | exact Nat.le_refl _⟩, ⟨by (with_reducible repeat (first | apply Kd.R_alloc | apply Kd.R_drewN | apply Kd.R_drew)); exact HO_5.out⟩, ⟨by repeat (first | (with_reducible first | exact HB.out | apply below_alloc | apply pw_below_drewN | apply below_drew1) | exact HB.out)⟩⟩
                          · rw [if_neg c32] at H
                            have c32b0 : (a0 == 5) = false := beq_eq_false_iff_ne.mpr c32
                            have c32b1 : (a0 != 5) = true := bne_iff_ne.mpr c32
                            (first | rw [c32b0] | (simp only [i64_w, i32_w]; rw [c32b0]) | skip)
                            by_cases c33 : x5_3.length < 35184372088832
                            · rw [if_pos c33] at H
                              have LMc33 := Aside0.mk c33
                              clear c33
                              obtain ⟨y113, hy113⟩ : ∃ y_ : List Int, y_ = (x5_3 ++ [Go.bits .or .u32 ji5 (ji30)]) := ⟨_, rfl⟩
                              replace H : (spec_l04Turns.j4 k3 a0 a1 y113 ji5 x8_3 (Go.bits .or .u32 ji5 (ji30))) = some r := by first | (rw [hy113]; with_reducible exact H) | (have H2_ := (Option.bind_some _ _).symm.trans H; rw [hy113]; with_reducible exact H2_) | (have H2_ := (Option.bind_some _ _).symm.trans H; with_reducible exact H2_) | with_reducible exact H | (rw [hy113]; exact H) | exact H
                              have Ny113 := Aside0.mk hy113
                              clear hy113
                              have H' := Aside0.mk H
                              clear H
                              go_wp2_with (first | ((with_reducible refine gate_builtin (b := .append) (xs := #[.tmp 38, .tmp 40]) rfl ?_); at_builtin; refine Kd.R_append (Kd.int .u32) (w0 := w) w.heap.size rfl (.tmp 38) (.tmp 40) 22 33 (.int .u32 0) 4 rfl Tryd.underlying22 info33 rfl (by decide) (by omega) u5 x5_3 (Go.bits .or .u32 ji5 (ji30)) [.int .u32 (Go.bits .or .u32 ji5 (ji30))] (fun _ => True) (fun _ => False) rfl rfl ?aP (fun _ hk => hk.elim) ?aF ?aO ?aB ?aS ?aL ?_; (case aP => exact rfl); (case aB => exact (by repeat (first | (with_reducible first | exact HB.out | apply below_alloc | apply pw_below_drewN | apply below_drew1) | exact HB.out))); (case aF => exact (fun _ _ => trivial)); (case aO => exact (by (with_reducible repeat (first | apply Kd.R_alloc | apply Kd.R_drewN | apply Kd.R_drew)); exact HO_5.out)); (case aS => exact (below_size (by repeat (first | (with_reducible first | exact HB.out | apply below_alloc | apply pw_below_drewN | apply below_drew1) | exact HB.out)))); (case aL => have := LMc33.out; omega); intro v114 w34 ho hb hg hat; rw [← Ny113.out] at ho; have n0_ := Aside0.mk (hb); have n1_ := Aside0.mk (ho); clear HB; clear HO_5; have HB := n0_; have HO115 := n1_; clear n0_ n1_; clear ho hb hg hat))
                              go_meet
                              case rel => exact ⟨_, (y113), H', ⟨by have := HJ18.out; have := HJ22.out; have := HK3.out; first | omega | exact Nat.le_refl _⟩, ⟨by (with_reducible repeat (first | apply Kd.R_alloc | apply Kd.R_drewN | apply Kd.R_drew)); exact HO115.out⟩, ⟨by repeat (first | (with_reducible first | exact HB.out | apply below_alloc | apply pw_below_drewN | apply below_drew1) | exact HB.out)⟩⟩
                            · rw [if_neg c33] at H
                              exact absurd H (by simp)
                        case rest =>
                          clear HC31
                          try clear c1
                          try clear c2
                          try clear p2
                          try clear c3
                          try clear c4
                          try clear c4b0
                          try clear c4b1
                          try clear c6
                          try clear c6b0
                          try clear c6b1
                          try clear c7
                          try clear c11
                          try clear c11b0
                          try clear c11b1
                          try clear c14
                          try clear c14b0
                          try clear c14b1
                          try clear c15
                          try clear c16
                          try clear c16b0
                          try clear c16b1
                          try clear c22
                          try clear c22b0
                          try clear c22b1
                          try clear c23
                          try clear c24
                          try clear c25
                          try clear c27
                          try clear c27b0
                          try clear c29
                          try clear c29b0
                          try clear c29b1
                          try clear c32
                          try clear c32b0
                          try clear c32b1
                          try clear c33
                          try clear p2
                          obtain ⟨kq, x5_30, HA, HJ30, HO_5, HB⟩ := hcut
                          cases kq with
                          | zero => exact absurd HA.out (by simp [spec_l04Turns.j4])
                          | succ kj30 =>
                            have H := HA.out
                            clear HA
                            simp only [spec_l04Turns.j4] at H
                            have H' := Aside0.mk H
                            clear H
                            go_wp2
                            go_loopg [5, 10] kj30 (fun kq v5 v10 w' => ∃ (x5_5 : List Int) (x10_5 : Int), v10 = .int .i64 x10_5 ∧ Aside0 (spec_l04Turns.l2 kq a0 a1 x5_5 ji5 x8_3 (Go.bits .or .u32 ji5 (ji30)) x10_5 = some r) ∧ Aside0 (kq ≤ kj30) ∧ Aside0 (Kd.R (Kd.int .u32) 33 w' w.heap.size (fun _ => True) v5 x5_5) ∧ Aside0 (Below w.heap.size w w'))
                            case atStart => exact ⟨(x5_30), (0), (by first | rfl | (simp; done) | (simp [*]; done)), H', ⟨Nat.le_refl _⟩, ⟨by (with_reducible repeat (first | apply Kd.R_alloc | apply Kd.R_drewN | apply Kd.R_drew)); exact HO_5.out⟩, ⟨by repeat (first | (with_reducible first | exact HB.out | apply below_alloc | apply pw_below_drewN | apply below_drew1) | exact HB.out)⟩⟩
                            case round =>
                              clear H'
                              try clear c1
                              try clear c2
                              try clear p2
                              try clear c3
                              try clear c4
                              try clear c4b0
                              try clear c4b1
                              try clear c6
                              try clear c6b0
                              try clear c6b1
                              try clear c7
                              try clear c11
                              try clear c11b0
                              try clear c11b1
                              try clear c14
                              try clear c14b0
                              try clear c14b1
                              try clear c15
                              try clear c16
                              try clear c16b0
                              try clear c16b1
                              try clear c22
                              try clear c22b0
                              try clear c22b1
                              try clear c23
                              try clear c24
                              try clear c25
                              try clear c27
                              try clear c27b0
                              try clear c29
                              try clear c29b0
                              try clear c29b1
                              try clear c32
                              try clear c32b0
                              try clear c32b1
                              try clear c33
                              try clear p2
                              obtain ⟨x5_5, x10_5, rfl, HA, HK5, HO_5, HB⟩ := hrel
                              cases gk with
                              | zero => exact absurd HA.out (by simp [spec_l04Turns.l2])
                              | succ k5 =>
                                have H := HA.out
                                clear HA
                                simp only [spec_l04Turns.l2] at H
                                by_cases c35 : x10_5 < x8_3
                                · rw [if_pos c35] at H
                                  have c35b0 : decide (x10_5 < x8_3) = true := decide_eq_true c35
                                  clear c35
                                  by_cases c36 : a0 = 3
                                  · rw [if_pos c36] at H
                                    have c36b0 : (a0 == 3) = true := beq_iff_eq.mpr c36
                                    have c36b1 : (a0 != 3) = false := bne_eq_false_iff_eq.mpr c36
                                    clear c36
                                    obtain ⟨ji37, hji37⟩ : ∃ j_ : Int, (IntKind.u64.wrap (x10_5)) = j_ := ⟨_, rfl⟩
                                    replace H : (if 0 ≤ (ji37) then (if x5_5.length < 35184372088832 then (spec_l04Turns.l2 k5 a0 a1 (x5_5 ++ [Go.bits .or .u32 (Go.bits .or .u32 ji5 (ji30)) (shl .u32 1 (ji37))]) ji5 x8_3 (Go.bits .or .u32 ji5 (ji30)) (wrap64 (x10_5 + 1))) else (none)) else (none)) = some r := by first | (rw [hji37] at H; exact H) | (simp only [hji37] at H ⊢; exact H)
                                    by_cases c38 : 0 ≤ (ji37)
                                    · rw [if_pos c38] at H
                                      have c38b0 := eq_true c38
                                      have c38b1 : decide (0 ≤ (ji37)) = true := decide_eq_true c38
                                      clear c38
                                      obtain ⟨ji39, hji39⟩ : ∃ j_ : Int, (shl .u32 1 (ji37)) = j_ := ⟨_, rfl⟩
                                      replace H : (if x5_5.length < 35184372088832 then (spec_l04Turns.l2 k5 a0 a1 (x5_5 ++ [Go.bits .or .u32 (Go.bits .or .u32 ji5 (ji30)) (ji39)]) ji5 x8_3 (Go.bits .or .u32 ji5 (ji30)) (wrap64 (x10_5 + 1))) else (none)) = some r := by first | (rw [hji39] at H; exact H) | (simp only [hji39] at H ⊢; exact H)
                                      have hji39_ : (IntKind.u32.wrap (1 * 2 ^ min (ji37).toNat 32)) = ji39 := hji39
                                      have hji39z : (ji37) ≤ 32 → (IntKind.u32.wrap (1 * 2 ^ (ji37).toNat)) = ji39 := shl_small hji39
                                      have hji39n : 0 ≤ (ji39) := by rw [← hji39]; simp only [shl, IntKind.wrap, IntKind.signed, IntKind.bits, Bool.false_and, Bool.false_eq_true, if_false]; exact Int.emod_nonneg _ (by decide)
                                      have hji39n0 := eq_true hji39n
                                      have hji39n1 : decide (0 ≤ (ji39)) = true := decide_eq_true hji39n
                                      clear hji39n
                                      have hji39u : (IntKind.u32.wrap (2 ^ min (ji37).toNat 32)) = ji39 := by have h_ := hji39_; rw [Int.one_mul] at h_; exact h_
                                      have hji39v : (ji37) ≤ 32 → (IntKind.u32.wrap (2 ^ (ji37).toNat)) = ji39 := fun hle_ => by have h_ := hji39z hle_; rw [Int.one_mul] at h_; exact h_
                                      by_cases c40 : x5_5.length < 35184372088832
                                      · rw [if_pos c40] at H
                                        have LMc40 := Aside0.mk c40
                                        clear c40
                                        obtain ⟨y116, hy116⟩ : ∃ y_ : List Int, y_ = (x5_5 ++ [Go.bits .or .u32 (Go.bits .or .u32 ji5 (ji30)) (ji39)]) := ⟨_, rfl⟩
                                        replace H : (spec_l04Turns.l2 k5 a0 a1 y116 ji5 x8_3 (Go.bits .or .u32 ji5 (ji30)) (wrap64 (x10_5 + 1))) = some r := by first | (rw [hy116]; with_reducible exact H) | (have H2_ := (Option.bind_some _ _).symm.trans H; rw [hy116]; with_reducible exact H2_) | (have H2_ := (Option.bind_some _ _).symm.trans H; with_reducible exact H2_) | with_reducible exact H | (rw [hy116]; exact H) | exact H
                                        have Ny116 := Aside0.mk hy116
                                        clear hy116
                                        have H' := Aside0.mk H
                                        clear H
                                        go_wp2_with (first | ((with_reducible refine gate_builtin (b := .append) (xs := #[.tmp 55, .tmp 61]) rfl ?_); at_builtin; refine Kd.R_append (Kd.int .u32) (w0 := w) w.heap.size rfl (.tmp 55) (.tmp 61) 22 33 (.int .u32 0) 4 rfl Tryd.underlying22 info33 rfl (by decide) (by omega) u5 x5_5 (Go.bits .or .u32 (Go.bits .or .u32 ji5 (ji30)) (ji39)) [.int .u32 (Go.bits .or .u32 (Go.bits .or .u32 ji5 (ji30)) (ji39))] (fun _ => True) (fun _ => False) rfl rfl ?aP (fun _ hk => hk.elim) ?aF ?aO ?aB ?aS ?aL ?_; (case aP => exact rfl); (case aB => exact (by repeat (first | (with_reducible first | exact HB.out | apply below_alloc | apply pw_below_drewN | apply below_drew1) | exact HB.out))); (case aF => exact (fun _ _ => trivial)); (case aO => exact (by (with_reducible repeat (first | apply Kd.R_alloc | apply Kd.R_drewN | apply Kd.R_drew)); exact HO_5.out)); (case aS => exact (below_size (by repeat (first | (with_reducible first | exact HB.out | apply below_alloc | apply pw_below_drewN | apply below_drew1) | exact HB.out)))); (case aL => have := LMc40.out; omega); intro v117 w41 ho hb hg hat; rw [← Ny116.out] at ho; have n0_ := Aside0.mk (hb); have n1_ := Aside0.mk (ho); clear HB; clear HO_5; have HB := n0_; have HO118 := n1_; clear n0_ n1_; clear ho hb hg hat))
                                        go_roundg k5
                                        case measure => have := HJ18.out; have := HJ22.out; have := HK3.out; have := HJ30.out; have := HK5.out; omega
                                        case rel => exact ⟨(y116), (wrap64 (x10_5 + 1)), (by first | rfl | (simp; done) | (simp [*]; done)), H', ⟨by have := HJ18.out; have := HJ22.out; have := HK3.out; have := HJ30.out; have := HK5.out; omega⟩, ⟨by (with_reducible repeat (first | apply Kd.R_alloc | apply Kd.R_drewN | apply Kd.R_drew)); exact HO118.out⟩, ⟨by repeat (first | (with_reducible first | exact HB.out | apply below_alloc | apply pw_below_drewN | apply below_drew1) | exact HB.out)⟩⟩
                                      · rw [if_neg c40] at H
                                        exact absurd H (by simp)
                                    · rw [if_neg c38] at H
                                      exact absurd H (by simp)
                                  · rw [if_neg c36] at H
                                    have c36b0 : (a0 == 3) = false := beq_eq_false_iff_ne.mpr c36
                                    have c36b1 : (a0 != 3) = true := bne_iff_ne.mpr c36
                                    by_cases c42 : a0 = 5
                                    · rw [if_pos c42] at H
                                      have c42b0 : (a0 == 5) = true := beq_iff_eq.mpr c42
                                      have c42b1 : (a0 != 5) = false := bne_eq_false_iff_eq.mpr c42
                                      clear c42
                                      obtain ⟨ji43, hji43⟩ : ∃ j_ : Int, (IntKind.u64.wrap (x10_5)) = j_ := ⟨_, rfl⟩
                                      replace H : (if 0 ≤ (ji43) then (if x5_5.length < 35184372088832 then (spec_l04Turns.l2 k5 a0 a1 (x5_5 ++ [Go.bits .or .u32 (Go.bits .or .u32 ji5 (ji30)) (shl .u32 1 (ji43))]) ji5 x8_3 (Go.bits .or .u32 ji5 (ji30)) (wrap64 (x10_5 + 1))) else (none)) else (none)) = some r := by first | (rw [hji43] at H; exact H) | (simp only [hji43] at H ⊢; exact H)
                                      by_cases c44 : 0 ≤ (ji43)
                                      · rw [if_pos c44] at H
                                        have c44b0 := eq_true c44
                                        have c44b1 : decide (0 ≤ (ji43)) = true := decide_eq_true c44
                                        clear c44
                                        obtain ⟨ji45, hji45⟩ : ∃ j_ : Int, (shl .u32 1 (ji43)) = j_ := ⟨_, rfl⟩
                                        replace H : (if x5_5.length < 35184372088832 then (spec_l04Turns.l2 k5 a0 a1 (x5_5 ++ [Go.bits .or .u32 (Go.bits .or .u32 ji5 (ji30)) (ji45)]) ji5 x8_3 (Go.bits .or .u32 ji5 (ji30)) (wrap64 (x10_5 + 1))) else (none)) = some r := by first | (rw [hji45] at H; exact H) | (simp only [hji45] at H ⊢; exact H)
                                        have hji45_ : (IntKind.u32.wrap (1 * 2 ^ min (ji43).toNat 32)) = ji45 := hji45
                                        have hji45z : (ji43) ≤ 32 → (IntKind.u32.wrap (1 * 2 ^ (ji43).toNat)) = ji45 := shl_small hji45
                                        have hji45n : 0 ≤ (ji45) := by rw [← hji45]; simp only [shl, IntKind.wrap, IntKind.signed, IntKind.bits, Bool.false_and, Bool.false_eq_true, if_false]; exact Int.emod_nonneg _ (by decide)
                                        have hji45n0 := eq_true hji45n
                                        have hji45n1 : decide (0 ≤ (ji45)) = true := decide_eq_true hji45n
                                        clear hji45n
                                        have hji45u : (IntKind.u32.wrap (2 ^ min (ji43).toNat 32)) = ji45 := by have h_ := hji45_; rw [Int.one_mul] at h_; exact h_
                                        have hji45v : (ji43) ≤ 32 → (IntKind.u32.wrap (2 ^ (ji43).toNat)) = ji45 := fun hle_ => by have h_ := hji45z hle_; rw [Int.one_mul] at h_; exact h_
                                        by_cases c46 : x5_5.length < 35184372088832
                                        · rw [if_pos c46] at H
                                          have LMc46 := Aside0.mk c46
                                          clear c46
                                          obtain ⟨y119, hy119⟩ : ∃ y_ : List Int, y_ = (x5_5 ++ [Go.bits .or .u32 (Go.bits .or .u32 ji5 (ji30)) (ji45)]) := ⟨_, rfl⟩
                                          replace H : (spec_l04Turns.l2 k5 a0 a1 y119 ji5 x8_3 (Go.bits .or .u32 ji5 (ji30)) (wrap64 (x10_5 + 1))) = some r := by first | (rw [hy119]; with_reducible exact H) | (have H2_ := (Option.bind_some _ _).symm.trans H; rw [hy119]; with_reducible exact H2_) | (have H2_ := (Option.bind_some _ _).symm.trans H; with_reducible exact H2_) | with_reducible exact H | (rw [hy119]; exact H) | exact H
                                          have Ny119 := Aside0.mk hy119
                                          clear hy119
                                          have H' := Aside0.mk H
                                          clear H
                                          go_wp2_with (first | ((with_reducible refine gate_builtin (b := .append) (xs := #[.tmp 55, .tmp 61]) rfl ?_); at_builtin; refine Kd.R_append (Kd.int .u32) (w0 := w) w.heap.size rfl (.tmp 55) (.tmp 61) 22 33 (.int .u32 0) 4 rfl Tryd.underlying22 info33 rfl (by decide) (by omega) u5 x5_5 (Go.bits .or .u32 (Go.bits .or .u32 ji5 (ji30)) (ji45)) [.int .u32 (Go.bits .or .u32 (Go.bits .or .u32 ji5 (ji30)) (ji45))] (fun _ => True) (fun _ => False) rfl rfl ?aP (fun _ hk => hk.elim) ?aF ?aO ?aB ?aS ?aL ?_; (case aP => exact rfl); (case aB => exact (by repeat (first | (with_reducible first | exact HB.out | apply below_alloc | apply pw_below_drewN | apply below_drew1) | exact HB.out))); (case aF => exact (fun _ _ => trivial)); (case aO => exact (by (with_reducible repeat (first | apply Kd.R_alloc | apply Kd.R_drewN | apply Kd.R_drew)); exact HO_5.out)); (case aS => exact (below_size (by repeat (first | (with_reducible first | exact HB.out | apply below_alloc | apply pw_below_drewN | apply below_drew1) | exact HB.out)))); (case aL => have := LMc46.out; omega); intro v120 w47 ho hb hg hat; rw [← Ny119.out] at ho; have n0_ := Aside0.mk (hb); have n1_ := Aside0.mk (ho); clear HB; clear HO_5; have HB := n0_; have HO121 := n1_; clear n0_ n1_; clear ho hb hg hat))
                                          go_roundg k5
                                          case measure => have := HJ18.out; have := HJ22.out; have := HK3.out; have := HJ30.out; have := HK5.out; omega
                                          case rel => exact ⟨(y119), (wrap64 (x10_5 + 1)), (by first | rfl | (simp; done) | (simp [*]; done)), H', ⟨by have := HJ18.out; have := HJ22.out; have := HK3.out; have := HJ30.out; have := HK5.out; omega⟩, ⟨by (with_reducible repeat (first | apply Kd.R_alloc | apply Kd.R_drewN | apply Kd.R_drew)); exact HO121.out⟩, ⟨by repeat (first | (with_reducible first | exact HB.out | apply below_alloc | apply pw_below_drewN | apply below_drew1) | exact HB.out)⟩⟩
                                        · rw [if_neg c46] at H
                                          exact absurd H (by simp)
                                      · rw [if_neg c44] at H
                                        exact absurd H (by simp)
                                    · rw [if_neg c42] at H
                                      have c42b0 : (a0 == 5) = false := beq_eq_false_iff_ne.mpr c42
                                      have c42b1 : (a0 != 5) = true := bne_iff_ne.mpr c42
                                      have H' := Aside0.mk H
                                      clear H
                                      go_wp2
                                      go_roundg k5
                                      case measure => have := HJ18.out; have := HJ22.out; have := HK3.out; have := HJ30.out; have := HK5.out; omega
                                      case rel => exact ⟨(x5_5), (wrap64 (x8_3 + 1)), (by first | rfl | (simp; done) | (simp [*]; done)), H', ⟨by have := HJ18.out; have := HJ22.out; have := HK3.out; have := HJ30.out; have := HK5.out; omega⟩, ⟨by (with_reducible repeat (first | apply Kd.R_alloc | apply Kd.R_drewN | apply Kd.R_drew)); exact HO_5.out⟩, ⟨by repeat (first | (with_reducible first | exact HB.out | apply below_alloc | apply pw_below_drewN | apply below_drew1) | exact HB.out)⟩⟩
                                · rw [if_neg c35] at H
                                  have c35b0 : decide (x10_5 < x8_3) = false := decide_eq_false c35
                                  clear c35
                                  have H' := Aside0.mk H
                                  clear H
                                  go_wp2
                                  go_roundg k5
                                  case measure => have := HJ18.out; have := HJ22.out; have := HK3.out; have := HJ30.out; have := HK5.out; omega
                                  case rel => exact ⟨(x5_5), (wrap64 (x8_3 + 1)), (by first | rfl | (simp; done) | (simp [*]; done)), H', ⟨by have := HJ18.out; have := HJ22.out; have := HK3.out; have := HJ30.out; have := HK5.out; omega⟩, ⟨by (with_reducible repeat (first | apply Kd.R_alloc | apply Kd.R_drewN | apply Kd.R_drew)); exact HO_5.out⟩, ⟨by repeat (first | (with_reducible first | exact HB.out | apply below_alloc | apply pw_below_drewN | apply below_drew1) | exact HB.out)⟩⟩
                      · rw [if_neg c29] at H
                        exact absurd H (by simp)
                    · rw [if_neg c27] at H
                      have c27b0 : decide (x8_3 < a1) = false := decide_eq_false c27
                      clear c27
                      obtain rfl := Option.some.inj H
                      go_wp2
                      go_ret
                      exact ⟨_, by first | rfl | (simp [errW_none, errW_some] <;> rfl) | (simp only [← hji3, ← hji5]; first | rfl | (simp [errW_none, errW_some] <;> rfl)) | (simp [*, errW_none, errW_some] <;> rfl), by (with_reducible repeat (first | apply Kd.R_alloc | apply Kd.R_drewN | apply Kd.R_drew)); exact HO_5.out, by repeat (first | (with_reducible first | exact HB.out | apply below_alloc | apply pw_below_drewN | apply below_drew1) | exact HB.out)⟩
  · rw [if_neg c4] at H
    exact absurd H (by simp)

/-! ### spec_l04Sum: function 30 -/
def spec_l04Sum.l0 : Nat → List Int → Int → Int → Int → Option (Int)
  | 0, _, _, _, _ => none
  | k + 1, x0, x1, x5, x6 => if x6 < (x0.length : Int) then (if 0 ≤ (IntKind.u64.wrap (x6)) then (if (Go.bits .and .u32 (shr .u32 x1 (IntKind.u64.wrap (x6))) 1) = 1 then (if 0 ≤ x6 then (spec_l04Sum.l0 k x0 x1 (Go.bits .xor .u16 x5 (rd x0 x6)) (wrap64 (x6 + 1))) else (none)) else (spec_l04Sum.l0 k x0 x1 x5 (wrap64 (x6 + 1)))) else (none)) else (some x5)
def spec_l04Sum.f (k : Nat) (l0 : List Int) (a1 : Int) : Option (Int) := spec_l04Sum.l0 k l0 a1 0 0
theorem spec_l04Sum.mono_l : ∀ k, (∀ y0 y1 y2 y3, LeO (spec_l04Sum.l0 k y0 y1 y2 y3) (spec_l04Sum.l0 (k + 1) y0 y1 y2 y3))
  | 0 => fun _ _ _ _ r h => by simp [spec_l04Sum.l0] at h
  | k + 1 => by
    have ih0 := spec_l04Sum.mono_l k
    · intro y0 y1 y2 y3
      unfold spec_l04Sum.l0
      repeat' first
      | (with_reducible exact ih0 _ _ _ _)
      | (with_reducible exact LeO.refl _)
      | (with_reducible exact LeO.none _)
      | (with_reducible refine LeO.ite ?_ ?_)
      | (with_reducible refine LeO.bind ?_ (fun _ => ?_))
      | exact ih0 _ _ _ _
      | exact LeO.none _
      | refine LeO.ite ?_ ?_
      | refine LeO.bind ?_ (fun _ => ?_)
theorem spec_l04Sum.mono : ∀ a0 a1 k, LeO (spec_l04Sum.f k a0 a1) (spec_l04Sum.f (k + 1) a0 a1) := by
  intro a0 a1 k
  have ih0 := spec_l04Sum.mono_l k
  unfold spec_l04Sum.f
  repeat' first
      | (with_reducible exact ih0 _ _ _ _)
      | (with_reducible exact LeO.refl _)
      | (with_reducible exact LeO.none _)
      | (with_reducible refine LeO.ite ?_ ?_)
      | (with_reducible refine LeO.bind ?_ (fun _ => ?_))
      | exact ih0 _ _ _ _
      | exact LeO.none _
      | refine LeO.ite ?_ ?_
      | refine LeO.bind ?_ (fun _ => ?_)
set_option maxHeartbeats 8000000 in
set_option maxRecDepth 100000 in
theorem spec_l04Sum.calls (k : Nat) (A0 : Option Addr) (c0 : Nat) (l0 : List Int) (a1 : Int) (r : Int) (w : World) (hr0 : Kd.C (Kd.int .u16) w A0 l0.length l0) (hc0 : l0.length ≤ c0) (h : spec_l04Sum.f k l0 a1 = some r) :
    Calls Tryd.prog 30 #[.slice A0 l0.length c0, .int .u32 a1] w fun e w' => e = .returned (.int .u16 r) ∧ Drawn0 w w' := by
  have HR0 := Aside0.mk hr0
  have HC0 := Aside0.mk hc0
  clear hr0 hc0
  have H : (spec_l04Sum.l0 k l0 a1 0 0) = some r := h
  clear h
  have H' := Aside0.mk H
  clear H
  go_enter Tryd.func30, Tryd.ntmps30
  go_wp2
  go_loopg [5, 6] k (fun kq v5 v6 w' => ∃ (x5_1 : Int) (x6_1 : Int), v5 = .int .u16 x5_1 ∧ v6 = .int .i64 x6_1 ∧ Aside0 (spec_l04Sum.l0 kq l0 a1 x5_1 x6_1 = some r) ∧ Aside0 (kq ≤ k) ∧ Drawn0 w w')
  case atStart => exact ⟨(0), (0), (by first | rfl | (simp; done) | (simp [*]; done)), (by first | rfl | (simp; done) | (simp [*]; done)), H', ⟨Nat.le_refl _⟩, by repeat (first | exact Drawn0.refl _ | apply Drawn0.step)⟩
  case round =>
    clear H'
    try clear p2
    obtain ⟨x5_1, x6_1, rfl, rfl, HA, HK1, ⟨m1, rfl⟩⟩ := hrel
    cases gk with
    | zero => exact absurd HA.out (by simp [spec_l04Sum.l0])
    | succ k1 =>
      have H := HA.out
      clear HA
      simp only [spec_l04Sum.l0] at H
      by_cases c3 : x6_1 < (l0.length : Int)
      · rw [if_pos c3] at H
        have c3b0 : decide (x6_1 < (l0.length : Int)) = true := decide_eq_true c3
        clear c3
        obtain ⟨ji4, hji4⟩ : ∃ j_ : Int, (IntKind.u64.wrap (x6_1)) = j_ := ⟨_, rfl⟩
        replace H : (if 0 ≤ (ji4) then (if (Go.bits .and .u32 (shr .u32 a1 (ji4)) 1) = 1 then (if 0 ≤ x6_1 then (spec_l04Sum.l0 k1 l0 a1 (Go.bits .xor .u16 x5_1 (rd l0 x6_1)) (wrap64 (x6_1 + 1))) else (none)) else (spec_l04Sum.l0 k1 l0 a1 x5_1 (wrap64 (x6_1 + 1)))) else (none)) = some r := by first | (rw [hji4] at H; exact H) | (simp only [hji4] at H ⊢; exact H)
        by_cases c5 : 0 ≤ (ji4)
        · rw [if_pos c5] at H
          have c5b0 := eq_true c5
          have c5b1 : decide (0 ≤ (ji4)) = true := decide_eq_true c5
          clear c5
          obtain ⟨ji6, hji6⟩ : ∃ j_ : Int, (shr .u32 a1 (ji4)) = j_ := ⟨_, rfl⟩
          replace H : (if (Go.bits .and .u32 (ji6) 1) = 1 then (if 0 ≤ x6_1 then (spec_l04Sum.l0 k1 l0 a1 (Go.bits .xor .u16 x5_1 (rd l0 x6_1)) (wrap64 (x6_1 + 1))) else (none)) else (spec_l04Sum.l0 k1 l0 a1 x5_1 (wrap64 (x6_1 + 1)))) = some r := by first | (rw [hji6] at H; exact H) | (simp only [hji6] at H ⊢; exact H)
          have hji6_ : (a1 / 2 ^ min (ji4).toNat 32) = ji6 := hji6
          have hji6z : (ji4) ≤ 32 → (a1 / 2 ^ (ji4).toNat) = ji6 := shr_small hji6
          by_cases c7 : (Go.bits .and .u32 (ji6) 1) = 1
          · rw [if_pos c7] at H
            have c7b0 : ((Go.bits .and .u32 (ji6) 1) == 1) = true := beq_iff_eq.mpr c7
            have c7b1 : ((Go.bits .and .u32 (ji6) 1) != 1) = false := bne_eq_false_iff_eq.mpr c7
            clear c7
            by_cases c8 : 0 ≤ x6_1
            · rw [if_pos c8] at H
              have c8b0 : decide (0 ≤ x6_1) = true := decide_eq_true c8
              clear c8
              have H' := Aside0.mk H
              clear H
              have p122 : 0 ≤ (x6_1 : Int) := of_decide_eq_true (by first | (with_reducible assumption) | assumption)
              have q122 : x6_1 < (l0.length : Int) := of_decide_eq_true (by first | (with_reducible assumption) | assumption)
              obtain ⟨ad122, e122, hx122_0⟩ := Kd.at_int HR0.out x6_1 p122 q122
              cases e122
              replace p122 := eq_true p122
              replace q122 := eq_true q122
              go_wp2
              go_roundg k1
              case measure => have := HK1.out; omega
              case rel => exact ⟨(Go.bits .xor .u16 x5_1 (rd l0 x6_1)), (wrap64 (x6_1 + 1)), (by first | rfl | (simp; done) | (simp [*]; done)), (by first | rfl | (simp; done) | (simp [*]; done)), H', ⟨by have := HK1.out; omega⟩, by repeat (first | exact Drawn0.refl _ | apply Drawn0.step)⟩
            · rw [if_neg c8] at H
              exact absurd H (by simp)
          · rw [if_neg c7] at H
            have c7b0 : ((Go.bits .and .u32 (ji6) 1) == 1) = false := beq_eq_false_iff_ne.mpr c7
            have c7b1 : ((Go.bits .and .u32 (ji6) 1) != 1) = true := bne_iff_ne.mpr c7
            have H' := Aside0.mk H
            clear H
            go_wp2
            go_roundg k1
            case measure => have := HK1.out; omega
            case rel => exact ⟨(x5_1), (wrap64 (x6_1 + 1)), (by first | rfl | (simp; done) | (simp [*]; done)), (by first | rfl | (simp; done) | (simp [*]; done)), H', ⟨by have := HK1.out; omega⟩, by repeat (first | exact Drawn0.refl _ | apply Drawn0.step)⟩
        · rw [if_neg c5] at H
          exact absurd H (by simp)
      · rw [if_neg c3] at H
        have c3b0 : decide (x6_1 < (l0.length : Int)) = false := decide_eq_false c3
        clear c3
        obtain rfl := Option.some.inj H
        go_wp2
        go_ret
        exact ⟨by first | rfl | (simp; done) | (simp [*]; done), by repeat (first | exact Drawn0.refl _ | apply Drawn0.step)⟩

end Go.Proofs.YtnicjjnghclgpaaDoor.QFnExactRowValue
