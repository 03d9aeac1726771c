-- PRINTED BY print.sh 35421559b90ae4d0a3588c463048766b98c2df88dd9212a6774a882060cdf62d: not written by this session
import Derived.Test.YtbhjkaiiebpopaaPFnExactTakePeriodx0
import Derived.Test.YtbhjkaiiebpopaaPFnExactTakePeriodx2
namespace Go.Proofs.Ytbhjkaiiebpopaa.PFnExactTakePeriod
open Go.RowKit Go.Proofs.YtbhjkaiiebpopaaW.PrintWords Go.Proofs.YtbhjkaiiebpopaaW.PrintLast Go.Proofs.YtbhjkaiiebpopaaW.PrintMore
attribute [local go_sem] max2_int min2_int max_two min_two max_three min_three max_four min_four   -- for this text's walks alone
set_option linter.unusedVariables false
set_option linter.unusedSimpArgs false

/-! ### impl_takeValues: function 64 -/
mutual
def impl_takeValues.l0 : Nat → Int → List Int → Int → Int → Option (List Int)
  | 0, _, _, _, _ => none
  | k + 1, x0, x5, x11, x12 => if x12 < x11 then (impl_takeValues.l1 k x0 x5 x12 (([] : List Int)) 1 x11 x12) else (some x5)
def impl_takeValues.l1 : Nat → Int → List Int → Int → List Int → Int → Int → Int → Option (List Int)
  | 0, _, _, _, _, _, _, _ => none
  | k + 1, x0, x5, x6, x7, x8, x11, x12 => if x8 ≤ (mn x6 63) then ((impl_mayTake.f x0 x8).bind fun t141 => (if t141 = true then (if 0 ≤ (wrap64 (x6 - x8)) then (if (wrap64 (x6 - x8)) < (x5.length : Int) then (if x7.length < 70368744177664 then (impl_takeValues.l1 k x0 x5 x6 (x7 ++ [rd x5 (wrap64 (x6 - x8))]) (wrap64 (x8 + 1)) x11 x12) else (none)) else (none)) else (none)) else (impl_takeValues.l1 k x0 x5 x6 x7 (wrap64 (x8 + 1)) x11 x12))) else ((impl_mex.f k x7).bind fun t146 => (if x5.length < 70368744177664 then (impl_takeValues.l0 k x0 (x5 ++ [IntKind.u16.wrap (t146)]) x11 (wrap64 (x12 + 1))) else (none)))
end
def impl_takeValues.f (k : Nat) (a0 : Int) (a1 : Int) : Option (List Int) := impl_takeValues.l0 k a0 (([] : List Int)) (wrap64 (a1 + 1)) 0
theorem impl_takeValues.mono_l : ∀ k, (∀ y0 y1 y2 y3, LeO (impl_takeValues.l0 k y0 y1 y2 y3) (impl_takeValues.l0 (k + 1) y0 y1 y2 y3)) ∧ (∀ y0 y1 y2 y3 y4 y5 y6, LeO (impl_takeValues.l1 k y0 y1 y2 y3 y4 y5 y6) (impl_takeValues.l1 (k + 1) y0 y1 y2 y3 y4 y5 y6))
  | 0 => ⟨fun _ _ _ _ r h => by simp [impl_takeValues.l0] at h, fun _ _ _ _ _ _ _ r h => by simp [impl_takeValues.l1] at h⟩
  | k + 1 => by
    obtain ⟨ih0, ih1⟩ := impl_takeValues.mono_l k
    refine ⟨?_, ?_⟩
    · intro y0 y1 y2 y3
      unfold impl_takeValues.l0
      repeat' first
      | (with_reducible exact ih0 _ _ _ _)
      | (with_reducible exact ih1 _ _ _ _ _ _ _)
      | (with_reducible exact impl_mex.mono _ _)
      | (with_reducible exact LeO.refl _)
      | (with_reducible exact LeO.none _)
      | (with_reducible refine LeO.ite ?_ ?_)
      | (with_reducible refine LeO.bind ?_ (fun _ => ?_))
      | exact ih0 _ _ _ _
      | exact ih1 _ _ _ _ _ _ _
      | exact impl_mex.mono _ _
      | exact LeO.none _
      | refine LeO.ite ?_ ?_
      | refine LeO.bind ?_ (fun _ => ?_)
    · intro y0 y1 y2 y3 y4 y5 y6
      unfold impl_takeValues.l1
      repeat' first
      | (with_reducible exact ih0 _ _ _ _)
      | (with_reducible exact ih1 _ _ _ _ _ _ _)
      | (with_reducible exact impl_mex.mono _ _)
      | (with_reducible exact LeO.refl _)
      | (with_reducible exact LeO.none _)
      | (with_reducible refine LeO.ite ?_ ?_)
      | (with_reducible refine LeO.bind ?_ (fun _ => ?_))
      | exact ih0 _ _ _ _
      | exact ih1 _ _ _ _ _ _ _
      | exact impl_mex.mono _ _
      | exact LeO.none _
      | refine LeO.ite ?_ ?_
      | refine LeO.bind ?_ (fun _ => ?_)
theorem impl_takeValues.mono : ∀ a0 a1 k, LeO (impl_takeValues.f k a0 a1) (impl_takeValues.f (k + 1) a0 a1) := by
  intro a0 a1 k
  obtain ⟨ih0, ih1⟩ := impl_takeValues.mono_l k
  unfold impl_takeValues.f
  repeat' first
      | (with_reducible exact ih0 _ _ _ _)
      | (with_reducible exact ih1 _ _ _ _ _ _ _)
      | (with_reducible exact impl_mex.mono _ _)
      | (with_reducible exact LeO.refl _)
      | (with_reducible exact LeO.none _)
      | (with_reducible refine LeO.ite ?_ ?_)
      | (with_reducible refine LeO.bind ?_ (fun _ => ?_))
      | exact ih0 _ _ _ _
      | exact ih1 _ _ _ _ _ _ _
      | exact impl_mex.mono _ _
      | exact LeO.none _
      | refine LeO.ite ?_ ?_
      | refine LeO.bind ?_ (fun _ => ?_)
set_option maxHeartbeats 8000000 in
set_option maxRecDepth 100000 in
theorem impl_takeValues.calls (k : Nat) (a0 : Int) (a1 : Int) (r : List Int) (w : World) (h : impl_takeValues.f k a0 a1 = some r) :
    Calls Try.prog 64 #[.int .u64 a0, .int .i64 a1] w fun e w' => ∃ v0_ : Value, e = .returned (v0_) ∧ Kd.R (Kd.int .u16) 47 w' w.heap.size (fun _ => True) v0_ r ∧ Below w.heap.size w w' := by
  have HB := Aside0.mk (Below.refl w.heap.size w)
  have H : (impl_takeValues.l0 k a0 (([] : List Int)) (wrap64 (a1 + 1)) 0) = some r := h
  clear h
  obtain ⟨y135, hy135⟩ : ∃ y_ : List Int, y_ = (([] : List Int)) := ⟨_, rfl⟩
  replace H : (impl_takeValues.l0 k a0 y135 (wrap64 (a1 + 1)) 0) = some r := by first | (rw [hy135]; with_reducible exact H) | (have H2_ := (Option.bind_some _ _).symm.trans H; rw [hy135]; with_reducible exact H2_) | (have H2_ := (Option.bind_some _ _).symm.trans H; with_reducible exact H2_) | with_reducible exact H | (rw [hy135]; exact H) | exact H
  have Ny135 := Aside0.mk hy135
  clear hy135
  have H' := Aside0.mk H
  clear H
  go_enter Try.func64, Try.ntmps64
  go_wp2_with (first | ((with_reducible refine gate_dst (N := 9) rfl ?_); refine Kd.R_lit (Kd.int .u16) _ 47 ?hg (N := 9) ?hd (xs := ([] : List Int)) (inner := []) (ok := fun _ => True) (okp := fun _ => True) ?hr ?hp (fun _ hk => hk) trivial (Below.refl _ _) (Nat.le_refl _) (by simp) ?_; (case hd => rfl); (case hg => rfl); (case hr => first | (go_simp; done) | (go_simp; rfl)); (case hp => exact (Reps.none _ _)); intro v136 w3 ho4 hb hg_ hnew_; clear hg_ hnew_; (first | rw [← Ny135.out] at ho4 | (simp only [Int.reduceToNat] at ho4; rw [← Ny135.out] at ho4)); have n0_ := Aside0.mk (Kd.R_lower ho4 (below_size (by repeat (first | (with_reducible first | exact HB.out | apply below_alloc | apply pw_below_drewN | apply below_drew1) | exact HB.out)))); have n1_ := Aside0.mk (below_step (by repeat (first | (with_reducible first | exact HB.out | apply below_alloc | apply pw_below_drewN | apply below_drew1) | exact HB.out)) hb); clear HB; have HO137 := n0_; have HB := n1_; clear n0_ n1_; clear hb ho4))
  go_loopg [5, 12] k (fun kq v5 v12 w' => ∃ (x5_1 : List Int) (x12_1 : Int), v12 = .int .i64 x12_1 ∧ Aside0 (impl_takeValues.l0 kq a0 x5_1 (wrap64 (a1 + 1)) x12_1 = some r) ∧ Aside0 (kq ≤ k) ∧ Aside0 (Kd.R (Kd.int .u16) 47 w' w.heap.size (fun _ => True) v5 x5_1) ∧ Aside0 (Below w.heap.size w w'))
  case atStart => exact ⟨(y135), (0), (by first | rfl | (simp; done) | (simp [*]; done)), H', ⟨Nat.le_refl _⟩, ⟨by (with_reducible repeat (first | apply Kd.R_alloc | apply Kd.R_drewN | apply Kd.R_drew)); exact HO137.out⟩, ⟨by repeat (first | (with_reducible first | exact HB.out | apply below_alloc | apply pw_below_drewN | apply below_drew1) | exact HB.out)⟩⟩
  case round =>
    clear H'
    try clear p2
    obtain ⟨x5_1, x12_1, rfl, HA, HK1, HO_5, HB⟩ := hrel
    cases gk with
    | zero => exact absurd HA.out (by simp [impl_takeValues.l0])
    | succ k1 =>
      have H := HA.out
      clear HA
      simp only [impl_takeValues.l0] at H
      by_cases c5 : x12_1 < (wrap64 (a1 + 1))
      · rw [if_pos c5] at H
        have c5b0 : decide (x12_1 < (wrap64 (a1 + 1))) = true := decide_eq_true c5
        clear c5
        obtain ⟨y138, hy138⟩ : ∃ y_ : List Int, y_ = (([] : List Int)) := ⟨_, rfl⟩
        replace H : (impl_takeValues.l1 k1 a0 x5_1 x12_1 y138 1 (wrap64 (a1 + 1)) x12_1) = some r := by first | (rw [hy138]; with_reducible exact H) | (have H2_ := (Option.bind_some _ _).symm.trans H; rw [hy138]; with_reducible exact H2_) | (have H2_ := (Option.bind_some _ _).symm.trans H; with_reducible exact H2_) | with_reducible exact H | (rw [hy138]; exact H) | exact H
        have Ny138 := Aside0.mk hy138
        clear hy138
        have H' := Aside0.mk H
        clear H
        go_wp2_with (first | ((with_reducible refine gate_dst (N := 15) rfl ?_); refine Kd.R_lit (Kd.int .u16) _ 47 ?hg (N := 15) ?hd (xs := ([] : List Int)) (inner := []) (ok := fun _ => True) (okp := fun _ => True) ?hr ?hp (fun _ hk => hk) trivial (Below.refl _ _) (Nat.le_refl _) (by simp) ?_; (case hd => rfl); (case hg => rfl); (case hr => first | (go_simp; done) | (go_simp; rfl)); (case hp => exact (Reps.none _ _)); intro v139 w6 ho7 hb hg_ hnew_; clear hg_ hnew_; (first | rw [← Ny138.out] at ho7 | (simp only [Int.reduceToNat] at ho7; rw [← Ny138.out] at ho7)); have n0_ := Aside0.mk (Kd.R_elder' (by (with_reducible repeat (first | apply Kd.R_alloc | apply Kd.R_drewN | apply Kd.R_drew)); exact HO_5.out) (Kd.R_base ho7) hb); have n1_ := Aside0.mk (Kd.R_lower (Kd.R_new' ho7 (Kd.R_lt (by (with_reducible repeat (first | apply Kd.R_alloc | apply Kd.R_drewN | apply Kd.R_drew)); exact HO_5.out))) (below_size (by repeat (first | (with_reducible first | exact HB.out | apply below_alloc | apply pw_below_drewN | apply below_drew1) | exact HB.out)))); have n2_ := Aside0.mk (below_step (by repeat (first | (with_reducible first | exact HB.out | apply below_alloc | apply pw_below_drewN | apply below_drew1) | exact HB.out)) hb); clear HO_5; clear HB; have HO_5 := n0_; have HO140 := n1_; have HB := n2_; clear n0_ n1_ n2_; clear hb ho7))
        go_loopg [7, 8] k1 (fun kq v7 v8 w' => ∃ (x7_2 : List Int) (x8_2 : Int), v8 = .int .i64 x8_2 ∧ Aside0 (impl_takeValues.l1 kq a0 x5_1 x12_1 x7_2 x8_2 (wrap64 (a1 + 1)) x12_1 = some r) ∧ Aside0 (kq ≤ k1) ∧ Aside0 (Kd.R (Kd.int .u16) 47 w' w.heap.size (fun k_ => some k_ ≠ (v7 : Value).ownBlock) u5 x5_1) ∧ Aside0 (Kd.R (Kd.int .u16) 47 w' w.heap.size (fun k_ => some k_ ≠ (u5 : Value).ownBlock) v7 x7_2) ∧ Aside0 (Below w.heap.size w w'))
        case atStart => exact ⟨(y138), (1), (by first | rfl | (simp; done) | (simp [*]; done)), H', ⟨Nat.le_refl _⟩, ⟨by (with_reducible repeat (first | apply Kd.R_alloc | apply Kd.R_drewN | apply Kd.R_drew)); exact Kd.R_mono HO_5.out (fun _ hk => hk.2)⟩, ⟨by (with_reducible repeat (first | apply Kd.R_alloc | apply Kd.R_drewN | apply Kd.R_drew)); exact Kd.R_mono HO140.out (fun _ hk => hk.2)⟩, ⟨by repeat (first | (with_reducible first | exact HB.out | apply below_alloc | apply pw_below_drewN | apply below_drew1) | exact HB.out)⟩⟩
        case round =>
          clear H'
          try clear p2
          try clear c5
          try clear c5b0
          try clear c6
          try clear p6
          try clear p2
          obtain ⟨x7_2, x8_2, rfl, HA, HK2, HO_5, HO_7, HB⟩ := hrel
          cases gk with
          | zero => exact absurd HA.out (by simp [impl_takeValues.l1])
          | succ k2 =>
            have H := HA.out
            clear HA
            simp only [impl_takeValues.l1] at H
            obtain ⟨ji8, hji8⟩ : ∃ j_ : Int, (mn x12_1 63) = j_ := ⟨_, rfl⟩
            replace H : (if x8_2 ≤ (ji8) then ((impl_mayTake.f a0 x8_2).bind fun t141 => (if t141 = true then (if 0 ≤ (wrap64 (x12_1 - x8_2)) then (if (wrap64 (x12_1 - x8_2)) < (x5_1.length : Int) then (if x7_2.length < 70368744177664 then (impl_takeValues.l1 k2 a0 x5_1 x12_1 (x7_2 ++ [rd x5_1 (wrap64 (x12_1 - x8_2))]) (wrap64 (x8_2 + 1)) (wrap64 (a1 + 1)) x12_1) else (none)) else (none)) else (none)) else (impl_takeValues.l1 k2 a0 x5_1 x12_1 x7_2 (wrap64 (x8_2 + 1)) (wrap64 (a1 + 1)) x12_1))) else ((impl_mex.f k2 x7_2).bind fun t146 => (if x5_1.length < 70368744177664 then (impl_takeValues.l0 k2 a0 (x5_1 ++ [IntKind.u16.wrap (t146)]) (wrap64 (a1 + 1)) (wrap64 (x12_1 + 1))) else (none)))) = some r := by first | (rw [hji8] at H; exact H) | (simp only [hji8] at H ⊢; exact H)
            have hji8_ : (if 63 < x12_1 then 63 else x12_1) = ji8 := hji8
            by_cases c9 : x8_2 ≤ (ji8)
            · rw [if_pos c9] at H
              have c9b0 : decide (x8_2 ≤ (ji8)) = true := decide_eq_true c9
              clear c9
              replace H := Option.bind_eq_some_iff.mp H
              obtain ⟨t141, A100, H⟩ := H
              replace H : (if t141 = true then (if 0 ≤ (wrap64 (x12_1 - x8_2)) then (if (wrap64 (x12_1 - x8_2)) < (x5_1.length : Int) then (if x7_2.length < 70368744177664 then (impl_takeValues.l1 k2 a0 x5_1 x12_1 (x7_2 ++ [rd x5_1 (wrap64 (x12_1 - x8_2))]) (wrap64 (x8_2 + 1)) (wrap64 (a1 + 1)) x12_1) else (none)) else (none)) else (none)) else (impl_takeValues.l1 k2 a0 x5_1 x12_1 x7_2 (wrap64 (x8_2 + 1)) (wrap64 (a1 + 1)) x12_1)) = some r := H
              have A10 := Aside0.mk A100
              clear A100
              by_cases c11 : t141 = true
              · subst c11
                have H1 : (if 0 ≤ (wrap64 (x12_1 - x8_2)) then (if (wrap64 (x12_1 - x8_2)) < (x5_1.length : Int) then (if x7_2.length < 70368744177664 then (impl_takeValues.l1 k2 a0 x5_1 x12_1 (x7_2 ++ [rd x5_1 (wrap64 (x12_1 - x8_2))]) (wrap64 (x8_2 + 1)) (wrap64 (a1 + 1)) x12_1) else (none)) else (none)) else (none)) = some r := by rw [if_pos rfl] at H; exact H
                clear H
                have H := H1
                clear H1
                obtain ⟨ji12, hji12⟩ : ∃ j_ : Int, (wrap64 (x12_1 - x8_2)) = j_ := ⟨_, rfl⟩
                replace H : (if 0 ≤ (ji12) then (if (ji12) < (x5_1.length : Int) then (if x7_2.length < 70368744177664 then (impl_takeValues.l1 k2 a0 x5_1 x12_1 (x7_2 ++ [rd x5_1 (ji12)]) (wrap64 (x8_2 + 1)) (wrap64 (a1 + 1)) x12_1) else (none)) else (none)) else (none)) = some r := by first | (rw [hji12] at H; exact H) | (simp only [hji12] at H ⊢; exact H)
                (try rw [hji12] at A10)
                have hji12w : (IntKind.i64.wrap (x12_1 - x8_2)) = ji12 := (i64_w _).trans hji12
                by_cases c13 : 0 ≤ (ji12)
                · rw [if_pos c13] at H
                  have c13b0 : decide (0 ≤ (ji12)) = true := decide_eq_true c13
                  clear c13
                  by_cases c14 : (ji12) < (x5_1.length : Int)
                  · rw [if_pos c14] at H
                    have c14b0 : decide ((ji12) < (x5_1.length : Int)) = true := decide_eq_true c14
                    clear c14
                    by_cases c15 : x7_2.length < 70368744177664
                    · rw [if_pos c15] at H
                      have LMc15 := Aside0.mk c15
                      clear c15
                      obtain ⟨y143, hy143⟩ : ∃ y_ : List Int, y_ = (x7_2 ++ [rd x5_1 (ji12)]) := ⟨_, rfl⟩
                      replace H : (impl_takeValues.l1 k2 a0 x5_1 x12_1 y143 (wrap64 (x8_2 + 1)) (wrap64 (a1 + 1)) x12_1) = some r := by first | (rw [hy143]; with_reducible exact H) | (have H2_ := (Option.bind_some _ _).symm.trans H; rw [hy143]; with_reducible exact H2_) | (have H2_ := (Option.bind_some _ _).symm.trans H; with_reducible exact H2_) | with_reducible exact H | (rw [hy143]; exact H) | exact H
                      have Ny143 := Aside0.mk hy143
                      clear hy143
                      have H' := Aside0.mk H
                      clear H
                      go_wp2_with (first | ((with_reducible refine gate_callee (f := 66) rfl ?_); refine goesL_ (some 24) rfl rfl Try.func66 (by kernel_rfl) rfl #[.int .u64 a0, .int .i64 x8_2] rfl (by (try simp only [List.map_toArray, List.map_cons, List.map_nil]); first | done | rfl | (simp only [List.length_drop, List.length_take]; rfl)) ?_; (with_reducible refine (impl_mayTake.calls a0 x8_2 true _ A10.out).mono ?_); rintro e w' ⟨rfl, ⟨nd, rfl⟩⟩; refine ⟨_, rfl, ?_⟩; obtain ⟨Ao16, co16, eo16⟩ := Kd.R_slice HO_5.out; subst eo16; have p142 : 0 ≤ ((ji12) : Int) := of_decide_eq_true (by first | (with_reducible assumption) | assumption); have q142 : (ji12) < (x5_1.length : Int) := of_decide_eq_true (by first | (with_reducible assumption) | assumption); obtain ⟨ad142, e142, hx142_0⟩ := Kd.at_int (Kd.R_reads' HO_5.out).2.2 (ji12) p142 q142; cases e142; replace p142 := eq_true p142; replace q142 := eq_true q142) | ((with_reducible refine gate_builtin (b := .append) (xs := #[.tmp 25, .tmp 32]) rfl ?_); at_builtin; refine Kd.R_append (Kd.int .u16) (w0 := w) w.heap.size rfl (.tmp 25) (.tmp 32) 34 47 (.int .u16 0) 2 rfl Try.underlying34 info47 rfl (by decide) (by omega) u7 x7_2 (rd x5_1 (ji12)) [.int .u16 (rd x5_1 (ji12))] (fun k_ => some k_ ≠ (.slice (some ad142) x5_1.length co16 : Value).ownBlock) (fun _ => False) rfl rfl ?aP (fun _ hk => hk.elim) ?aF ?aO ?aB ?aS ?aL ?_; (case aP => exact rfl); (case aB => exact (by repeat (first | (with_reducible first | exact HB.out | apply below_alloc | apply pw_below_drewN | apply below_drew1) | exact HB.out))); (case aF => exact (fun k_ hk => Kd.fresh' (Kd.R_lt (by (with_reducible repeat (first | apply Kd.R_alloc | apply Kd.R_drewN | apply Kd.R_drew)); exact HO_5.out)) k_ hk)); (case aO => exact (by (with_reducible repeat (first | apply Kd.R_alloc | apply Kd.R_drewN | apply Kd.R_drew)); exact HO_7.out)); (case aS => exact (below_size (by repeat (first | (with_reducible first | exact HB.out | apply below_alloc | apply pw_below_drewN | apply below_drew1) | exact HB.out)))); (case aL => have := LMc15.out; omega); intro v144 w17 ho hb hg hat; rw [← Ny143.out] at ho; have n0_ := Aside0.mk (Kd.R_after (ok := (fun _ => True)) (by (with_reducible repeat (first | apply Kd.R_alloc | apply Kd.R_drewN | apply Kd.R_drew)); exact Kd.R_mono HO_5.out (fun _ hk => ⟨trivial, hk⟩)) hg hat); have n1_ := Aside0.mk (hb); have n2_ := Aside0.mk (ho); clear HO_5; clear HB; clear HO_7; have HO_5 := n0_; have HB := n1_; have HO145 := n2_; clear n0_ n1_ n2_; clear ho hb hg hat))
                      go_roundg k2
                      case measure => have := HK1.out; have := HK2.out; omega
                      case rel => exact ⟨(y143), (wrap64 (x8_2 + 1)), (by first | rfl | (simp; done) | (simp [*]; done)), H', ⟨by have := HK1.out; have := HK2.out; omega⟩, ⟨by (with_reducible repeat (first | apply Kd.R_alloc | apply Kd.R_drewN | apply Kd.R_drew)); exact Kd.R_mono HO_5.out (fun _ hk => hk.2)⟩, ⟨by (with_reducible repeat (first | apply Kd.R_alloc | apply Kd.R_drewN | apply Kd.R_drew)); exact HO145.out⟩, ⟨by repeat (first | (with_reducible first | exact HB.out | apply below_alloc | apply pw_below_drewN | apply below_drew1) | exact HB.out)⟩⟩
                    · rw [if_neg c15] at H
                      exact absurd H (by simp)
                  · rw [if_neg c14] at H
                    exact absurd H (by simp)
                · rw [if_neg c13] at H
                  exact absurd H (by simp)
              · replace c11 := Bool.eq_false_iff.mpr c11
                subst c11
                have H1 : (impl_takeValues.l1 k2 a0 x5_1 x12_1 x7_2 (wrap64 (x8_2 + 1)) (wrap64 (a1 + 1)) x12_1) = some r := by rw [if_neg (show ¬ (false = true) by decide)] at H; exact H
                clear H
                have H := H1
                clear H1
                have H' := Aside0.mk H
                clear H
                go_wp2_with (first | ((with_reducible refine gate_callee (f := 66) rfl ?_); refine goesL_ (some 24) rfl rfl Try.func66 (by kernel_rfl) rfl #[.int .u64 a0, .int .i64 x8_2] rfl (by (try simp only [List.map_toArray, List.map_cons, List.map_nil]); first | done | rfl | (simp only [List.length_drop, List.length_take]; rfl)) ?_; (with_reducible refine (impl_mayTake.calls a0 x8_2 false _ A10.out).mono ?_); rintro e w' ⟨rfl, ⟨nd, rfl⟩⟩; refine ⟨_, rfl, ?_⟩))
                go_roundg k2
                case measure => have := HK1.out; have := HK2.out; omega
                case rel => exact ⟨(x7_2), (wrap64 (x8_2 + 1)), (by first | rfl | (simp; done) | (simp [*]; done)), H', ⟨by have := HK1.out; have := HK2.out; omega⟩, ⟨by (with_reducible repeat (first | apply Kd.R_alloc | apply Kd.R_drewN | apply Kd.R_drew)); exact HO_5.out⟩, ⟨by (with_reducible repeat (first | apply Kd.R_alloc | apply Kd.R_drewN | apply Kd.R_drew)); exact HO_7.out⟩, ⟨by repeat (first | (with_reducible first | exact HB.out | apply below_alloc | apply pw_below_drewN | apply below_drew1) | exact HB.out)⟩⟩
            · rw [if_neg c9] at H
              have c9b0 : decide (x8_2 ≤ (ji8)) = false := decide_eq_false c9
              clear c9
              replace H := Option.bind_eq_some_iff.mp H
              obtain ⟨t146, A180, H⟩ := H
              replace H : (if x5_1.length < 70368744177664 then (impl_takeValues.l0 k2 a0 (x5_1 ++ [IntKind.u16.wrap (t146)]) (wrap64 (a1 + 1)) (wrap64 (x12_1 + 1))) else (none)) = some r := H
              have A18 := Aside0.mk A180
              clear A180
              by_cases c19 : x5_1.length < 70368744177664
              · rw [if_pos c19] at H
                have LMc19 := Aside0.mk c19
                clear c19
                obtain ⟨y147, hy147⟩ : ∃ y_ : List Int, y_ = (x5_1 ++ [IntKind.u16.wrap (t146)]) := ⟨_, rfl⟩
                replace H : (impl_takeValues.l0 k2 a0 y147 (wrap64 (a1 + 1)) (wrap64 (x12_1 + 1))) = some r := by first | (rw [hy147]; with_reducible exact H) | (have H2_ := (Option.bind_some _ _).symm.trans H; rw [hy147]; with_reducible exact H2_) | (have H2_ := (Option.bind_some _ _).symm.trans H; with_reducible exact H2_) | with_reducible exact H | (rw [hy147]; exact H) | exact H
                have Ny147 := Aside0.mk hy147
                clear hy147
                have H' := Aside0.mk H
                clear H
                obtain ⟨Ao20, co20, eo20⟩ := Kd.R_slice HO_7.out
                subst eo20
                go_wp2_with (first | ((with_reducible refine gate_callee (f := 84) rfl ?_); refine goesL_ (some 36) rfl rfl Try.func84 (by kernel_rfl) rfl #[.slice Ao20 x7_2.length co20] rfl (by (try simp only [List.map_toArray, List.map_cons, List.map_nil]); first | done | rfl | (simp only [List.length_drop, List.length_take]; rfl)) ?_; (with_reducible refine (impl_mex.calls k2 _ _ x7_2 t146 _ ?side1 ?side2 A18.out).mono ?_); (case side1 => repeat (first | exact (Kd.R_reads' HO_7.out).2.2 | (with_reducible refine Kd.C_alloc ?_ _) | (with_reducible refine Kd.C_drewN ?_ _) | (with_reducible refine Kd.C_drew ?_))); (case side2 => exact (Kd.R_reads' HO_7.out).2.1); rintro e w21 ⟨rfl, hb⟩; refine ⟨_, rfl, ?_⟩; have n0_ := Aside0.mk (Kd.R_below (by (with_reducible repeat (first | apply Kd.R_alloc | apply Kd.R_drewN | apply Kd.R_drew)); exact HO_5.out) hb); have n1_ := Aside0.mk (Kd.R_below (by (with_reducible repeat (first | apply Kd.R_alloc | apply Kd.R_drewN | apply Kd.R_drew)); exact HO_7.out) hb); have n2_ := Aside0.mk (below_step (by repeat (first | (with_reducible first | exact HB.out | apply below_alloc | apply pw_below_drewN | apply below_drew1) | exact HB.out)) hb); clear HO_5; clear HO_7; clear HB; have HO_5 := n0_; have HO_7 := n1_; have HB := n2_; clear n0_ n1_ n2_; (try clear hb); (try clear hb2); (try clear hk); (try clear hi)) | ((with_reducible refine gate_builtin (b := .append) (xs := #[.tmp 34, .tmp 38]) rfl ?_); at_builtin; refine Kd.R_append (Kd.int .u16) (w0 := w) w.heap.size rfl (.tmp 34) (.tmp 38) 34 47 (.int .u16 0) 2 rfl Try.underlying34 info47 rfl (by decide) (by omega) u5 x5_1 (IntKind.u16.wrap (t146)) [.int .u16 (IntKind.u16.wrap (t146))] (fun k_ => some k_ ≠ (.slice Ao20 x7_2.length co20 : Value).ownBlock) (fun _ => False) rfl rfl ?aP (fun _ hk => hk.elim) ?aF ?aO ?aB ?aS ?aL ?_; (case aP => exact rfl); (case aB => exact (by repeat (first | (with_reducible first | exact HB.out | apply below_alloc | apply pw_below_drewN | apply below_drew1) | exact HB.out))); (case aF => exact (fun k_ hk => Kd.fresh' (Kd.R_lt (by (with_reducible repeat (first | apply Kd.R_alloc | apply Kd.R_drewN | apply Kd.R_drew)); exact HO_7.out)) k_ hk)); (case aO => exact (by (with_reducible repeat (first | apply Kd.R_alloc | apply Kd.R_drewN | apply Kd.R_drew)); exact HO_5.out)); (case aS => exact (below_size (by repeat (first | (with_reducible first | exact HB.out | apply below_alloc | apply pw_below_drewN | apply below_drew1) | exact HB.out)))); (case aL => have := LMc19.out; omega); intro v148 w22 ho hb hg hat; rw [← Ny147.out] at ho; have n0_ := Aside0.mk (Kd.R_after (ok := (fun _ => True)) (by (with_reducible repeat (first | apply Kd.R_alloc | apply Kd.R_drewN | apply Kd.R_drew)); exact Kd.R_mono HO_7.out (fun _ hk => ⟨trivial, hk⟩)) hg hat); have n1_ := Aside0.mk (hb); have n2_ := Aside0.mk (ho); clear HO_7; clear HB; clear HO_5; have HO_7 := n0_; have HB := n1_; have HO149 := n2_; clear n0_ n1_ n2_; clear ho hb hg hat))
                go_roundg k2
                case measure => have := HK1.out; have := HK2.out; omega
                case rel => exact ⟨(y147), (wrap64 (x12_1 + 1)), (by first | rfl | (simp; done) | (simp [*]; done)), H', ⟨by have := HK1.out; have := HK2.out; omega⟩, ⟨by (with_reducible repeat (first | apply Kd.R_alloc | apply Kd.R_drewN | apply Kd.R_drew)); exact Kd.R_mono HO149.out (fun _ hk => trivial)⟩, ⟨by repeat (first | (with_reducible first | exact HB.out | apply below_alloc | apply pw_below_drewN | apply below_drew1) | exact HB.out)⟩⟩
              · rw [if_neg c19] at H
                exact absurd H (by simp)
      · rw [if_neg c5] at H
        have c5b0 : decide (x12_1 < (wrap64 (a1 + 1))) = false := decide_eq_false c5
        clear c5
        obtain rfl := Option.some.inj H
        go_wp2
        go_ret
        exact ⟨_, by first | rfl | (simp [errW_none, errW_some] <;> rfl) | (simp [*, errW_none, errW_some] <;> rfl), by (with_reducible repeat (first | apply Kd.R_alloc | apply Kd.R_drewN | apply Kd.R_drew)); exact HO_5.out, by repeat (first | (with_reducible first | exact HB.out | apply below_alloc | apply pw_below_drewN | apply below_drew1) | exact HB.out)⟩

/-! ### impl_Nimber: function 67 -/
def impl_Nimber.l0 : Nat → List Int → List Int → Int → Int → Option (Bool)
  | 0, _, _, _, _ => none
  | k + 1, x0, x1, x12, x13 => if x13 < x12 then (if 0 ≤ x13 then (if x13 < (x0.length : Int) then (if x13 < (x1.length : Int) then (if (rd x0 x13) = (rd x1 x13) then (impl_Nimber.l0 k x0 x1 x12 (wrap64 (x13 + 1))) else (some false)) else (none)) else (none)) else (none)) else (some true)
def impl_Nimber.f (k : Nat) (l0 : List Int) (l1 : List Int) : Option (Bool) := if (l0.length : Int) = (l1.length : Int) then (impl_Nimber.l0 k l0 l1 (l0.length : Int) 0) else (some false)
theorem impl_Nimber.mono_l : ∀ k, (∀ y0 y1 y2 y3, LeO (impl_Nimber.l0 k y0 y1 y2 y3) (impl_Nimber.l0 (k + 1) y0 y1 y2 y3))
  | 0 => fun _ _ _ _ r h => by simp [impl_Nimber.l0] at h
  | k + 1 => by
    have ih0 := impl_Nimber.mono_l k
    · intro y0 y1 y2 y3
      unfold impl_Nimber.l0
      repeat' first
      | (with_reducible exact ih0 _ _ _ _)
      | (with_reducible exact LeO.refl _)
      | (with_reducible exact LeO.none _)
      | (with_reducible refine LeO.ite ?_ ?_)
      | (with_reducible refine LeO.bind ?_ (fun _ => ?_))
      | exact ih0 _ _ _ _
      | exact LeO.none _
      | refine LeO.ite ?_ ?_
      | refine LeO.bind ?_ (fun _ => ?_)
theorem impl_Nimber.mono : ∀ a0 a1 k, LeO (impl_Nimber.f k a0 a1) (impl_Nimber.f (k + 1) a0 a1) := by
  intro a0 a1 k
  have ih0 := impl_Nimber.mono_l k
  unfold impl_Nimber.f
  repeat' first
      | (with_reducible exact ih0 _ _ _ _)
      | (with_reducible exact LeO.refl _)
      | (with_reducible exact LeO.none _)
      | (with_reducible refine LeO.ite ?_ ?_)
      | (with_reducible refine LeO.bind ?_ (fun _ => ?_))
      | exact ih0 _ _ _ _
      | exact LeO.none _
      | refine LeO.ite ?_ ?_
      | refine LeO.bind ?_ (fun _ => ?_)
set_option maxHeartbeats 8000000 in
set_option maxRecDepth 100000 in
theorem impl_Nimber.calls (k : Nat) (A0 : Option Addr) (c0 : Nat) (l0 : List Int) (A1 : Option Addr) (c1 : Nat) (l1 : List Int) (r : Bool) (w : World) (hr0 : Kd.C (Kd.int .u16) w A0 l0.length l0) (hc0 : l0.length ≤ c0) (hr1 : Kd.C (Kd.int .u16) w A1 l1.length l1) (hc1 : l1.length ≤ c1) (h : impl_Nimber.f k l0 l1 = some r) :
    Calls Try.prog 67 #[.slice A0 l0.length c0, .slice A1 l1.length c1] w fun e w' => e = .returned (.bool r) ∧ Drawn0 w w' := by
  have HR0 := Aside0.mk hr0
  have HC0 := Aside0.mk hc0
  clear hr0 hc0
  have HR1 := Aside0.mk hr1
  have HC1 := Aside0.mk hc1
  clear hr1 hc1
  have H : (if (l0.length : Int) = (l1.length : Int) then (impl_Nimber.l0 k l0 l1 (l0.length : Int) 0) else (some false)) = some r := h
  clear h
  by_cases c3 : (l0.length : Int) = (l1.length : Int)
  · rw [if_pos c3] at H
    have c3b0 : ((l0.length : Int) == (l1.length : Int)) = true := beq_iff_eq.mpr c3
    have c3b1 : ((l0.length : Int) != (l1.length : Int)) = false := bne_eq_false_iff_eq.mpr c3
    have c3b2 : (l0.length == l1.length) = true := by first | simpa using c3 | (simp at c3 ⊢; omega)
    clear c3
    have H' := Aside0.mk H
    clear H
    go_enter Try.func67, Try.ntmps67
    go_wp2
    repeat (go_quiet (fail); try go_wp2)
    go_loopg [13] k (fun kq v13 w' => ∃ (x13_1 : Int), v13 = .int .i64 x13_1 ∧ Aside0 (impl_Nimber.l0 kq l0 l1 (l0.length : Int) x13_1 = some r) ∧ Aside0 (kq ≤ k) ∧ Drawn0 w w')
    case atStart => exact ⟨(0), (by first | rfl | (simp; done) | (simp [*]; done)), H', ⟨Nat.le_refl _⟩, by repeat (first | exact Drawn0.refl _ | apply Drawn0.step)⟩
    case round =>
      clear H'
      try clear c1
      try clear p2
      try clear c3
      try clear c3b0
      try clear c3b1
      try clear c3b2
      obtain ⟨x13_1, rfl, HA, HK1, ⟨m1, rfl⟩⟩ := hrel
      cases gk with
      | zero => exact absurd HA.out (by simp [impl_Nimber.l0])
      | succ k1 =>
        have H := HA.out
        clear HA
        simp only [impl_Nimber.l0] at H
        by_cases c4 : x13_1 < (l0.length : Int)
        · rw [if_pos c4] at H
          have c4b0 : decide (x13_1 < (l0.length : Int)) = true := decide_eq_true c4
          clear c4
          by_cases c5 : 0 ≤ x13_1
          · rw [if_pos c5] at H
            have c5b0 : decide (0 ≤ x13_1) = true := decide_eq_true c5
            clear c5
            by_cases c6 : x13_1 < (l0.length : Int)
            · rw [if_pos c6] at H
              have c6b0 : decide (x13_1 < (l0.length : Int)) = true := decide_eq_true c6
              clear c6
              by_cases c7 : x13_1 < (l1.length : Int)
              · rw [if_pos c7] at H
                have c7b0 : decide (x13_1 < (l1.length : Int)) = true := decide_eq_true c7
                clear c7
                by_cases c8 : (rd l0 x13_1) = (rd l1 x13_1)
                · rw [if_pos c8] at H
                  have c8b0 : ((rd l0 x13_1) == (rd l1 x13_1)) = true := beq_iff_eq.mpr c8
                  have c8b1 : ((rd l0 x13_1) != (rd l1 x13_1)) = false := bne_eq_false_iff_eq.mpr c8
                  clear c8
                  have H' := Aside0.mk H
                  clear H
                  have p150 : 0 ≤ (x13_1 : Int) := of_decide_eq_true (by first | (with_reducible assumption) | assumption)
                  have q150 : x13_1 < (l0.length : Int) := of_decide_eq_true (by first | (with_reducible assumption) | assumption)
                  obtain ⟨ad150, e150, hx150_0⟩ := Kd.at_int HR0.out x13_1 p150 q150
                  cases e150
                  replace p150 := eq_true p150
                  replace q150 := eq_true q150
                  have p151 : 0 ≤ (x13_1 : Int) := of_decide_eq_true (by first | (with_reducible assumption) | assumption)
                  have q151 : x13_1 < (l1.length : Int) := of_decide_eq_true (by first | (with_reducible assumption) | assumption)
                  obtain ⟨ad151, e151, hx151_0⟩ := Kd.at_int HR1.out x13_1 p151 q151
                  cases e151
                  replace p151 := eq_true p151
                  replace q151 := eq_true q151
                  go_wp2
                  repeat (go_quiet (fail); try go_wp2)
                  go_roundg k1
                  case measure => have := HK1.out; omega
                  case rel => exact ⟨(wrap64 (x13_1 + 1)), (by first | rfl | (simp; done) | (simp [*]; done)), H', ⟨by have := HK1.out; omega⟩, by repeat (first | exact Drawn0.refl _ | apply Drawn0.step)⟩
                · rw [if_neg c8] at H
                  have c8b0 : ((rd l0 x13_1) == (rd l1 x13_1)) = false := beq_eq_false_iff_ne.mpr c8
                  have c8b1 : ((rd l0 x13_1) != (rd l1 x13_1)) = true := bne_iff_ne.mpr c8
                  obtain rfl := Option.some.inj H
                  have p150 : 0 ≤ (x13_1 : Int) := of_decide_eq_true (by first | (with_reducible assumption) | assumption)
                  have q150 : x13_1 < (l0.length : Int) := of_decide_eq_true (by first | (with_reducible assumption) | assumption)
                  obtain ⟨ad150, e150, hx150_0⟩ := Kd.at_int HR0.out x13_1 p150 q150
                  cases e150
                  replace p150 := eq_true p150
                  replace q150 := eq_true q150
                  have p151 : 0 ≤ (x13_1 : Int) := of_decide_eq_true (by first | (with_reducible assumption) | assumption)
                  have q151 : x13_1 < (l1.length : Int) := of_decide_eq_true (by first | (with_reducible assumption) | assumption)
                  obtain ⟨ad151, e151, hx151_0⟩ := Kd.at_int HR1.out x13_1 p151 q151
                  cases e151
                  replace p151 := eq_true p151
                  replace q151 := eq_true q151
                  go_wp2
                  repeat (go_quiet (fail); try go_wp2)
                  go_ret
                  exact ⟨by first | rfl | (simp; done) | (simp [*]; done), by repeat (first | exact Drawn0.refl _ | apply Drawn0.step)⟩
              · rw [if_neg c7] at H
                exact absurd H (by simp)
            · rw [if_neg c6] at H
              exact absurd H (by simp)
          · rw [if_neg c5] at H
            exact absurd H (by simp)
        · rw [if_neg c4] at H
          have c4b0 : decide (x13_1 < (l0.length : Int)) = false := decide_eq_false c4
          clear c4
          obtain rfl := Option.some.inj H
          go_wp2
          repeat (go_quiet (fail); try go_wp2)
          go_ret
          exact ⟨by first | rfl | (simp; done) | (simp [*]; done), by repeat (first | exact Drawn0.refl _ | apply Drawn0.step)⟩
  · rw [if_neg c3] at H
    have c3b0 : ((l0.length : Int) == (l1.length : Int)) = false := beq_eq_false_iff_ne.mpr c3
    have c3b1 : ((l0.length : Int) != (l1.length : Int)) = true := bne_iff_ne.mpr c3
    have c3b2 : (l0.length == l1.length) = false := by first | simpa using c3 | (simp at c3 ⊢; omega)
    obtain rfl := Option.some.inj H
    go_enter Try.func67, Try.ntmps67
    go_wp2
    repeat (go_quiet (fail); try go_wp2)
    go_ret
    exact ⟨by first | rfl | (simp; done) | (simp [*]; done), by repeat (first | exact Drawn0.refl _ | apply Drawn0.step)⟩

/-! ### impl_TakePeriod: function 30 -/
mutual
def impl_TakePeriod.j0 : Nat → Int → Bool → Option (Int × Int × Int)
  | 0, _, _ => none
  | k + 1, x0, x15 => if x15 = true then (some (0, 0, 2)) else (impl_TakePeriod.l0 k x0 63)
def impl_TakePeriod.l0 : Nat → Int → Int → Option (Int × Int × Int)
  | 0, _, _ => none
  | k + 1, x0, x5 => (impl_mayTake.f x0 x5).bind fun t152 => (if t152 = true then ((impl_takeValues.f k x0 500).bind fun t153 => (impl_TakePeriod.l1 k x5 t153 0)) else (impl_TakePeriod.l0 k x0 (wrap64 (x5 - 1))))
def impl_TakePeriod.l1 : Nat → Int → List Int → Int → Option (Int × Int × Int)
  | 0, _, _, _ => none
  | k + 1, x5, x6, x7 => if (wrap64 ((wrap64 (x7 + 1)) + x5)) ≤ 500 then (impl_TakePeriod.l2 k x5 x6 x7 1) else (some (0, 0, 6))
def impl_TakePeriod.l2 : Nat → Int → List Int → Int → Int → Option (Int × Int × Int)
  | 0, _, _, _, _ => none
  | k + 1, x5, x6, x7, x8 => if (wrap64 ((wrap64 (x7 + x8)) + x5)) ≤ 500 then (if 0 ≤ x7 then (if x7 ≤ (wrap64 (x7 + x5)) then (if (wrap64 (x7 + x5)) ≤ (x6.length : Int) then (if 0 ≤ (wrap64 (x7 + x8)) then (if (wrap64 (x7 + x8)) ≤ (wrap64 ((wrap64 (x7 + x8)) + x5)) then (if (wrap64 ((wrap64 (x7 + x8)) + x5)) ≤ (x6.length : Int) then ((impl_Nimber.f k ((x6.take ((wrap64 (x7 + x5)) : Int).toNat).drop (x7 : Int).toNat) ((x6.take ((wrap64 ((wrap64 (x7 + x8)) + x5)) : Int).toNat).drop ((wrap64 (x7 + x8)) : Int).toNat)).bind fun t164 => (if t164 = true then (some (x7, x8, 0)) else (impl_TakePeriod.l2 k x5 x6 x7 (wrap64 (x8 + 1))))) else (none)) else (none)) else (none)) else (none)) else (none)) else (none)) else (impl_TakePeriod.l1 k x5 x6 (wrap64 (x7 + 1)))
end
def impl_TakePeriod.f (k : Nat) (a0 : Int) : Option (Int × Int × Int) := if (Go.bits .and .u64 a0 1) = 1 then (impl_TakePeriod.j0 k a0 true) else (impl_TakePeriod.j0 k a0 (a0 == 0))
theorem impl_TakePeriod.mono_l : ∀ k, (∀ y0 y1, LeO (impl_TakePeriod.j0 k y0 y1) (impl_TakePeriod.j0 (k + 1) y0 y1)) ∧ (∀ y0 y1, LeO (impl_TakePeriod.l0 k y0 y1) (impl_TakePeriod.l0 (k + 1) y0 y1)) ∧ (∀ y0 y1 y2, LeO (impl_TakePeriod.l1 k y0 y1 y2) (impl_TakePeriod.l1 (k + 1) y0 y1 y2)) ∧ (∀ y0 y1 y2 y3, LeO (impl_TakePeriod.l2 k y0 y1 y2 y3) (impl_TakePeriod.l2 (k + 1) y0 y1 y2 y3))
  | 0 => ⟨fun _ _ r h => by simp [impl_TakePeriod.j0] at h, fun _ _ r h => by simp [impl_TakePeriod.l0] at h, fun _ _ _ r h => by simp [impl_TakePeriod.l1] at h, fun _ _ _ _ r h => by simp [impl_TakePeriod.l2] at h⟩
  | k + 1 => by
    obtain ⟨ih0, ih1, ih2, ih3⟩ := impl_TakePeriod.mono_l k
    refine ⟨?_, ?_, ?_, ?_⟩
    · intro y0 y1
      unfold impl_TakePeriod.j0
      repeat' first
      | (with_reducible exact ih0 _ _)
      | (with_reducible exact ih1 _ _)
      | (with_reducible exact ih2 _ _ _)
      | (with_reducible exact ih3 _ _ _ _)
      | (with_reducible exact impl_Nimber.mono _ _ _)
      | (with_reducible exact impl_takeValues.mono _ _ _)
      | (with_reducible exact LeO.refl _)
      | (with_reducible exact LeO.none _)
      | (with_reducible refine LeO.ite ?_ ?_)
      | (with_reducible refine LeO.bind ?_ (fun _ => ?_))
      | exact ih0 _ _
      | exact ih1 _ _
      | exact ih2 _ _ _
      | exact ih3 _ _ _ _
      | exact impl_Nimber.mono _ _ _
      | exact impl_takeValues.mono _ _ _
      | exact LeO.none _
      | refine LeO.ite ?_ ?_
      | refine LeO.bind ?_ (fun _ => ?_)
    · intro y0 y1
      unfold impl_TakePeriod.l0
      repeat' first
      | (with_reducible exact ih0 _ _)
      | (with_reducible exact ih1 _ _)
      | (with_reducible exact ih2 _ _ _)
      | (with_reducible exact ih3 _ _ _ _)
      | (with_reducible exact impl_Nimber.mono _ _ _)
      | (with_reducible exact impl_takeValues.mono _ _ _)
      | (with_reducible exact LeO.refl _)
      | (with_reducible exact LeO.none _)
      | (with_reducible refine LeO.ite ?_ ?_)
      | (with_reducible refine LeO.bind ?_ (fun _ => ?_))
      | exact ih0 _ _
      | exact ih1 _ _
      | exact ih2 _ _ _
      | exact ih3 _ _ _ _
      | exact impl_Nimber.mono _ _ _
      | exact impl_takeValues.mono _ _ _
      | exact LeO.none _
      | refine LeO.ite ?_ ?_
      | refine LeO.bind ?_ (fun _ => ?_)
    · intro y0 y1 y2
      unfold impl_TakePeriod.l1
      repeat' first
      | (with_reducible exact ih0 _ _)
      | (with_reducible exact ih1 _ _)
      | (with_reducible exact ih2 _ _ _)
      | (with_reducible exact ih3 _ _ _ _)
      | (with_reducible exact impl_Nimber.mono _ _ _)
      | (with_reducible exact impl_takeValues.mono _ _ _)
      | (with_reducible exact LeO.refl _)
      | (with_reducible exact LeO.none _)
      | (with_reducible refine LeO.ite ?_ ?_)
      | (with_reducible refine LeO.bind ?_ (fun _ => ?_))
      | exact ih0 _ _
      | exact ih1 _ _
      | exact ih2 _ _ _
      | exact ih3 _ _ _ _
      | exact impl_Nimber.mono _ _ _
      | exact impl_takeValues.mono _ _ _
      | exact LeO.none _
      | refine LeO.ite ?_ ?_
      | refine LeO.bind ?_ (fun _ => ?_)
    · intro y0 y1 y2 y3
      unfold impl_TakePeriod.l2
      repeat' first
      | (with_reducible exact ih0 _ _)
      | (with_reducible exact ih1 _ _)
      | (with_reducible exact ih2 _ _ _)
      | (with_reducible exact ih3 _ _ _ _)
      | (with_reducible exact impl_Nimber.mono _ _ _)
      | (with_reducible exact impl_takeValues.mono _ _ _)
      | (with_reducible exact LeO.refl _)
      | (with_reducible exact LeO.none _)
      | (with_reducible refine LeO.ite ?_ ?_)
      | (with_reducible refine LeO.bind ?_ (fun _ => ?_))
      | exact ih0 _ _
      | exact ih1 _ _
      | exact ih2 _ _ _
      | exact ih3 _ _ _ _
      | exact impl_Nimber.mono _ _ _
      | exact impl_takeValues.mono _ _ _
      | exact LeO.none _
      | refine LeO.ite ?_ ?_
      | refine LeO.bind ?_ (fun _ => ?_)
theorem impl_TakePeriod.mono : ∀ a0 k, LeO (impl_TakePeriod.f k a0) (impl_TakePeriod.f (k + 1) a0) := by
  intro a0 k
  obtain ⟨ih0, ih1, ih2, ih3⟩ := impl_TakePeriod.mono_l k
  unfold impl_TakePeriod.f
  repeat' first
      | (with_reducible exact ih0 _ _)
      | (with_reducible exact ih1 _ _)
      | (with_reducible exact ih2 _ _ _)
      | (with_reducible exact ih3 _ _ _ _)
      | (with_reducible exact impl_Nimber.mono _ _ _)
      | (with_reducible exact impl_takeValues.mono _ _ _)
      | (with_reducible exact LeO.refl _)
      | (with_reducible exact LeO.none _)
      | (with_reducible refine LeO.ite ?_ ?_)
      | (with_reducible refine LeO.bind ?_ (fun _ => ?_))
      | exact ih0 _ _
      | exact ih1 _ _
      | exact ih2 _ _ _
      | exact ih3 _ _ _ _
      | exact impl_Nimber.mono _ _ _
      | exact impl_takeValues.mono _ _ _
      | exact LeO.none _
      | refine LeO.ite ?_ ?_
      | refine LeO.bind ?_ (fun _ => ?_)
set_option maxHeartbeats 8000000 in
set_option maxRecDepth 100000 in
theorem impl_TakePeriod.calls (k : Nat) (a0 : Int) (r1 : Int) (r2 : Int) (r3 : Int) (w : World) (h : impl_TakePeriod.f k a0 = some (r1, r2, r3)) :
    Calls Try.prog 30 #[.int .u64 a0] w fun e w' => e = .returned (.tuple #[.int .i64 r1, .int .i64 r2, .int .i64 r3]) ∧ Below w.heap.size w w' := by
  have HB := Aside0.mk (Below.refl w.heap.size w)
  have H : (if (Go.bits .and .u64 a0 1) = 1 then (impl_TakePeriod.j0 k a0 true) else (impl_TakePeriod.j0 k a0 (a0 == 0))) = some (r1, r2, r3) := h
  clear h
  have HC2 := Aside0.mk H
  clear H
  go_enter Try.func30, Try.ntmps30
  go_upto_region 1 with (fail)
  repeat (go_quiet (fail); go_upto_region 1 with (fail))
  go_cut [15] (fun v15 wc => ∃ (kq : Nat) (x15_1 : Bool), v15 = .bool x15_1 ∧ Aside0 (impl_TakePeriod.j0 kq a0 x15_1 = some (r1, r2, r3)) ∧ Aside0 (kq ≤ k) ∧ Aside0 (Below w.heap.size w wc))
  case first =>
    have H := HC2.out
    clear HC2
    by_cases c3 : (Go.bits .and .u64 a0 1) = 1
    · rw [if_pos c3] at H
      have c3b0 : ((Go.bits .and .u64 a0 1) == 1) = true := beq_iff_eq.mpr c3
      have c3b1 : ((Go.bits .and .u64 a0 1) != 1) = false := bne_eq_false_iff_eq.mpr c3
      clear c3
      (first | rw [c3b0] | (simp only [i64_w, i32_w]; rw [c3b0]) | skip)
      have H' := Aside0.mk H
      clear H
      go_wp2
      repeat (go_quiet (fail); try go_wp2)
      go_meet
      case rel => exact ⟨_, (true), (by first | rfl | (simp; done) | (simp [*]; done)), H', ⟨by first | omega | exact Nat.le_refl _⟩, ⟨by repeat (first | (with_reducible first | exact HB.out | apply below_alloc | apply pw_below_drewN | apply below_drew1) | exact HB.out)⟩⟩
    · rw [if_neg c3] at H
      have c3b0 : ((Go.bits .and .u64 a0 1) == 1) = false := beq_eq_false_iff_ne.mpr c3
      have c3b1 : ((Go.bits .and .u64 a0 1) != 1) = true := bne_iff_ne.mpr c3
      (first | rw [c3b0] | (simp only [i64_w, i32_w]; rw [c3b0]) | skip)
      have H' := Aside0.mk H
      clear H
      go_wp2
      repeat (go_quiet (fail); try go_wp2)
      go_meet
      case rel => exact ⟨_, ((a0 == 0)), (by first | rfl | (simp; done) | (simp [*]; done)), H', ⟨by first | omega | exact Nat.le_refl _⟩, ⟨by repeat (first | (with_reducible first | exact HB.out | apply below_alloc | apply pw_below_drewN | apply below_drew1) | exact HB.out)⟩⟩
  case rest =>
    clear HC2
    try clear p2
    try clear c3
    try clear c3b0
    try clear c3b1
    obtain ⟨kq, x15_1, rfl, HA, HJ1, HB⟩ := hcut
    cases kq with
    | zero => exact absurd HA.out (by simp [impl_TakePeriod.j0])
    | succ kj1 =>
      have H := HA.out
      clear HA
      simp only [impl_TakePeriod.j0] at H
      by_cases c4 : x15_1 = true
      · subst c4
        have H1 : (some (0, 0, 2)) = some (r1, r2, r3) := by rw [if_pos rfl] at H; exact H
        clear H
        have H := H1
        clear H1
        simp only [Option.some.injEq, Prod.mk.injEq] at H
        obtain ⟨rfl, rfl, rfl⟩ := H
        go_wp2
        repeat (go_quiet (fail); try go_wp2)
        go_ret3
        exact ⟨by first | rfl | (simp [errW_none, errW_some] <;> rfl) | (simp [*, errW_none, errW_some] <;> rfl), by repeat (first | (with_reducible first | exact HB.out | apply below_alloc | apply pw_below_drewN | apply below_drew1) | exact HB.out)⟩
      · replace c4 := Bool.eq_false_iff.mpr c4
        subst c4
        have H1 : (impl_TakePeriod.l0 kj1 a0 63) = some (r1, r2, r3) := by rw [if_neg (show ¬ (false = true) by decide)] at H; exact H
        clear H
        have H := H1
        clear H1
        have H' := Aside0.mk H
        clear H
        go_wp2
        repeat (go_quiet (fail); try go_wp2)
        go_loopg [5] kj1 (fun kq v5 w' => ∃ (x5_2 : Int), v5 = .int .i64 x5_2 ∧ Aside0 (impl_TakePeriod.l0 kq a0 x5_2 = some (r1, r2, r3)) ∧ Aside0 (kq ≤ kj1) ∧ Aside0 (Below w.heap.size w w'))
        case atStart => exact ⟨(63), (by first | rfl | (simp; done) | (simp [*]; done)), H', ⟨Nat.le_refl _⟩, ⟨by repeat (first | (with_reducible first | exact HB.out | apply below_alloc | apply pw_below_drewN | apply below_drew1) | exact HB.out)⟩⟩
        case round =>
          clear H'
          try clear p2
          try clear c3
          try clear c3b0
          try clear c3b1
          try clear c4
          try clear p2
          obtain ⟨x5_2, rfl, HA, HK2, HB⟩ := hrel
          cases gk with
          | zero => exact absurd HA.out (by simp [impl_TakePeriod.l0])
          | succ k2 =>
            have H := HA.out
            clear HA
            simp only [impl_TakePeriod.l0] at H
            replace H := Option.bind_eq_some_iff.mp H
            obtain ⟨t152, A50, H⟩ := H
            replace H : (if t152 = true then ((impl_takeValues.f k2 a0 500).bind fun t153 => (impl_TakePeriod.l1 k2 x5_2 t153 0)) else (impl_TakePeriod.l0 k2 a0 (wrap64 (x5_2 - 1)))) = some (r1, r2, r3) := H
            have A5 := Aside0.mk A50
            clear A50
            by_cases c6 : t152 = true
            · subst c6
              have H1 : ((impl_takeValues.f k2 a0 500).bind fun t153 => (impl_TakePeriod.l1 k2 x5_2 t153 0)) = some (r1, r2, r3) := by rw [if_pos rfl] at H; exact H
              clear H
              have H := H1
              clear H1
              replace H := Option.bind_eq_some_iff.mp H
              obtain ⟨t153, A70, H⟩ := H
              replace H : (impl_TakePeriod.l1 k2 x5_2 t153 0) = some (r1, r2, r3) := H
              have A7 := Aside0.mk A70
              clear A70
              have H' := Aside0.mk H
              clear H
              go_wp2_with (first | (go_at_call 66; (with_reducible refine (impl_mayTake.calls a0 x5_2 true _ A5.out).mono ?_); rintro e w' ⟨rfl, ⟨nd, rfl⟩⟩; (try first | exact ⟨rfl, _, World.drewN_drewN _ _ _⟩ | exact ⟨rfl, _, Eq.trans (World.drewN_drewN _ _ _) (congrArg (World.drewN _) (Nat.add_assoc _ _ _))⟩)) | (go_at_call 64; (with_reducible refine (impl_takeValues.calls k2 a0 500 t153 _ A7.out).mono ?_); rintro e w8 ⟨v154, rfl, ho0, hb⟩; have n0_ := Aside0.mk (Kd.R_lower ho0 (below_size (by repeat (first | (with_reducible first | exact HB.out | apply below_alloc | apply pw_below_drewN | apply below_drew1) | exact HB.out)))); have n1_ := Aside0.mk (below_step (by repeat (first | (with_reducible first | exact HB.out | apply below_alloc | apply pw_below_drewN | apply below_drew1) | exact HB.out)) hb); clear HB; have HO155 := n0_; have HB := n1_; clear n0_ n1_; (try clear hb); (try clear hb2); (try clear hk); (try clear hi); (try clear ho0)))
              repeat (go_quiet (first | (go_at_call 66; (with_reducible refine (impl_mayTake.calls a0 x5_2 true _ A5.out).mono ?_); rintro e w' ⟨rfl, ⟨nd, rfl⟩⟩; (try first | exact ⟨rfl, _, World.drewN_drewN _ _ _⟩ | exact ⟨rfl, _, Eq.trans (World.drewN_drewN _ _ _) (congrArg (World.drewN _) (Nat.add_assoc _ _ _))⟩)) | (go_at_call 64; (with_reducible refine (impl_takeValues.calls k2 a0 500 t153 _ A7.out).mono ?_); rintro e w8 ⟨v154, rfl, ho0, hb⟩; have n0_ := Aside0.mk (Kd.R_lower ho0 (below_size (by repeat (first | (with_reducible first | exact HB.out | apply below_alloc | apply pw_below_drewN | apply below_drew1) | exact HB.out)))); have n1_ := Aside0.mk (below_step (by repeat (first | (with_reducible first | exact HB.out | apply below_alloc | apply pw_below_drewN | apply below_drew1) | exact HB.out)) hb); clear HB; have HO155 := n0_; have HB := n1_; clear n0_ n1_; (try clear hb); (try clear hb2); (try clear hk); (try clear hi); (try clear ho0))); try go_wp2_with (first | (go_at_call 66; (with_reducible refine (impl_mayTake.calls a0 x5_2 true _ A5.out).mono ?_); rintro e w' ⟨rfl, ⟨nd, rfl⟩⟩; (try first | exact ⟨rfl, _, World.drewN_drewN _ _ _⟩ | exact ⟨rfl, _, Eq.trans (World.drewN_drewN _ _ _) (congrArg (World.drewN _) (Nat.add_assoc _ _ _))⟩)) | (go_at_call 64; (with_reducible refine (impl_takeValues.calls k2 a0 500 t153 _ A7.out).mono ?_); rintro e w8 ⟨v154, rfl, ho0, hb⟩; have n0_ := Aside0.mk (Kd.R_lower ho0 (below_size (by repeat (first | (with_reducible first | exact HB.out | apply below_alloc | apply pw_below_drewN | apply below_drew1) | exact HB.out)))); have n1_ := Aside0.mk (below_step (by repeat (first | (with_reducible first | exact HB.out | apply below_alloc | apply pw_below_drewN | apply below_drew1) | exact HB.out)) hb); clear HB; have HO155 := n0_; have HB := n1_; clear n0_ n1_; (try clear hb); (try clear hb2); (try clear hk); (try clear hi); (try clear ho0))))
              go_loopg [7] k2 (fun kq v7 w' => ∃ (x7_3 : Int), v7 = .int .i64 x7_3 ∧ Aside0 (impl_TakePeriod.l1 kq x5_2 t153 x7_3 = some (r1, r2, r3)) ∧ Aside0 (kq ≤ k2) ∧ Aside0 (Kd.R (Kd.int .u16) 47 w' w.heap.size (fun _ => True) v154 t153) ∧ Aside0 (Below w.heap.size w w'))
              case atStart => exact ⟨(0), (by first | rfl | (simp; done) | (simp [*]; done)), H', ⟨Nat.le_refl _⟩, ⟨by (with_reducible repeat (first | apply Kd.R_alloc | apply Kd.R_drewN | apply Kd.R_drew)); exact HO155.out⟩, ⟨by repeat (first | (with_reducible first | exact HB.out | apply below_alloc | apply pw_below_drewN | apply below_drew1) | exact HB.out)⟩⟩
              case round =>
                clear H'
                try clear p2
                try clear c3
                try clear c3b0
                try clear c3b1
                try clear c4
                try clear c6
                try clear p6
                try clear p2
                obtain ⟨x7_3, rfl, HA, HK3, HO_6, HB⟩ := hrel
                cases gk with
                | zero => exact absurd HA.out (by simp [impl_TakePeriod.l1])
                | succ k3 =>
                  have H := HA.out
                  clear HA
                  simp only [impl_TakePeriod.l1] at H
                  by_cases c9 : (wrap64 ((wrap64 (x7_3 + 1)) + x5_2)) ≤ 500
                  · rw [if_pos c9] at H
                    have c9b0 : decide ((wrap64 ((wrap64 (x7_3 + 1)) + x5_2)) ≤ 500) = true := decide_eq_true c9
                    clear c9
                    have H' := Aside0.mk H
                    clear H
                    go_wp2
                    repeat (go_quiet (fail); try go_wp2)
                    go_loopg [8] k3 (fun kq v8 w' => ∃ (x8_4 : Int), v8 = .int .i64 x8_4 ∧ Aside0 (impl_TakePeriod.l2 kq x5_2 t153 x7_3 x8_4 = some (r1, r2, r3)) ∧ Aside0 (kq ≤ k3) ∧ Aside0 (Kd.R (Kd.int .u16) 47 w' w.heap.size (fun _ => True) v154 t153) ∧ Aside0 (Below w.heap.size w w'))
                    case atStart => exact ⟨(1), (by first | rfl | (simp; done) | (simp [*]; done)), H', ⟨Nat.le_refl _⟩, ⟨by (with_reducible repeat (first | apply Kd.R_alloc | apply Kd.R_drewN | apply Kd.R_drew)); exact HO_6.out⟩, ⟨by repeat (first | (with_reducible first | exact HB.out | apply below_alloc | apply pw_below_drewN | apply below_drew1) | exact HB.out)⟩⟩
                    case round =>
                      clear H'
                      try clear p2
                      try clear c3
                      try clear c3b0
                      try clear c3b1
                      try clear c4
                      try clear c6
                      try clear p6
                      try clear c9
                      try clear c9b0
                      try clear p2
                      try clear p6
                      obtain ⟨x8_4, rfl, HA, HK4, HO_6, HB⟩ := hrel
                      cases gk with
                      | zero => exact absurd HA.out (by simp [impl_TakePeriod.l2])
                      | succ k4 =>
                        have H := HA.out
                        clear HA
                        simp only [impl_TakePeriod.l2] at H
                        by_cases c10 : (wrap64 ((wrap64 (x7_3 + x8_4)) + x5_2)) ≤ 500
                        · rw [if_pos c10] at H
                          have c10b0 : decide ((wrap64 ((wrap64 (x7_3 + x8_4)) + x5_2)) ≤ 500) = true := decide_eq_true c10
                          clear c10
                          by_cases c11 : 0 ≤ x7_3
                          · rw [if_pos c11] at H
                            have c11b0 := eq_true c11
                            have c11b1 : decide (0 ≤ x7_3) = true := decide_eq_true c11
                            clear c11
                            by_cases c12 : x7_3 ≤ (wrap64 (x7_3 + x5_2))
                            · rw [if_pos c12] at H
                              have c12b0 := eq_true c12
                              have c12b1 : decide (x7_3 ≤ (wrap64 (x7_3 + x5_2))) = true := decide_eq_true c12
                              by_cases c13 : (wrap64 (x7_3 + x5_2)) ≤ (t153.length : Int)
                              · rw [if_pos c13] at H
                                have c13b0 := eq_true c13
                                have c13b1 : decide ((wrap64 (x7_3 + x5_2)) ≤ (t153.length : Int)) = true := decide_eq_true c13
                                obtain ⟨y156, hy156⟩ : ∃ y_ : List Int, y_ = ((t153.take ((wrap64 (x7_3 + x5_2)) : Int).toNat).drop (x7_3 : Int).toNat) := ⟨_, rfl⟩
                                replace H : (if 0 ≤ (wrap64 (x7_3 + x8_4)) then (if (wrap64 (x7_3 + x8_4)) ≤ (wrap64 ((wrap64 (x7_3 + x8_4)) + x5_2)) then (if (wrap64 ((wrap64 (x7_3 + x8_4)) + x5_2)) ≤ (t153.length : Int) then ((impl_Nimber.f k4 y156 ((t153.take ((wrap64 ((wrap64 (x7_3 + x8_4)) + x5_2)) : Int).toNat).drop ((wrap64 (x7_3 + x8_4)) : Int).toNat)).bind fun t164 => (if t164 = true then (some (x7_3, x8_4, 0)) else (impl_TakePeriod.l2 k4 x5_2 t153 x7_3 (wrap64 (x8_4 + 1))))) else (none)) else (none)) else (none)) = some (r1, r2, r3) := by first | (rw [hy156]; with_reducible exact H) | (have H2_ := (Option.bind_some _ _).symm.trans H; rw [hy156]; with_reducible exact H2_) | (have H2_ := (Option.bind_some _ _).symm.trans H; with_reducible exact H2_) | with_reducible exact H | (rw [hy156]; exact H) | exact H
                                have Ny156 := Aside0.mk hy156
                                clear hy156
                                obtain ⟨ji14, hji14⟩ : ∃ j_ : Int, (wrap64 (x7_3 + x8_4)) = j_ := ⟨_, rfl⟩
                                replace H : (if 0 ≤ (ji14) then (if (ji14) ≤ (wrap64 ((ji14) + x5_2)) then (if (wrap64 ((ji14) + x5_2)) ≤ (t153.length : Int) then ((impl_Nimber.f k4 y156 ((t153.take ((wrap64 ((ji14) + x5_2)) : Int).toNat).drop ((ji14) : Int).toNat)).bind fun t164 => (if t164 = true then (some (x7_3, x8_4, 0)) else (impl_TakePeriod.l2 k4 x5_2 t153 x7_3 (wrap64 (x8_4 + 1))))) else (none)) else (none)) else (none)) = some (r1, r2, r3) := by first | (rw [hji14] at H; exact H) | (simp only [hji14] at H ⊢; exact H)
                                (try rw [hji14] at c10b0)
                                have hji14w : (IntKind.i64.wrap (x7_3 + x8_4)) = ji14 := (i64_w _).trans hji14
                                by_cases c15 : 0 ≤ (ji14)
                                · rw [if_pos c15] at H
                                  have c15b0 := eq_true c15
                                  have c15b1 : decide (0 ≤ (ji14)) = true := decide_eq_true c15
                                  clear c15
                                  by_cases c16 : (ji14) ≤ (wrap64 ((ji14) + x5_2))
                                  · rw [if_pos c16] at H
                                    have c16b0 := eq_true c16
                                    have c16b1 : decide ((ji14) ≤ (wrap64 ((ji14) + x5_2))) = true := decide_eq_true c16
                                    by_cases c17 : (wrap64 ((ji14) + x5_2)) ≤ (t153.length : Int)
                                    · rw [if_pos c17] at H
                                      have c17b0 := eq_true c17
                                      have c17b1 : decide ((wrap64 ((ji14) + x5_2)) ≤ (t153.length : Int)) = true := decide_eq_true c17
                                      obtain ⟨y160, hy160⟩ : ∃ y_ : List Int, y_ = ((t153.take ((wrap64 ((ji14) + x5_2)) : Int).toNat).drop ((ji14) : Int).toNat) := ⟨_, rfl⟩
                                      replace H : ((impl_Nimber.f k4 y156 y160).bind fun t164 => (if t164 = true then (some (x7_3, x8_4, 0)) else (impl_TakePeriod.l2 k4 x5_2 t153 x7_3 (wrap64 (x8_4 + 1))))) = some (r1, r2, r3) := by first | (rw [hy160]; with_reducible exact H) | (have H2_ := (Option.bind_some _ _).symm.trans H; rw [hy160]; with_reducible exact H2_) | (have H2_ := (Option.bind_some _ _).symm.trans H; with_reducible exact H2_) | with_reducible exact H | (rw [hy160]; exact H) | exact H
                                      have Ny160 := Aside0.mk hy160
                                      clear hy160
                                      replace H := Option.bind_eq_some_iff.mp H
                                      obtain ⟨t164, A180, H⟩ := H
                                      replace H : (if t164 = true then (some (x7_3, x8_4, 0)) else (impl_TakePeriod.l2 k4 x5_2 t153 x7_3 (wrap64 (x8_4 + 1)))) = some (r1, r2, r3) := H
                                      have A18 := Aside0.mk A180
                                      clear A180
                                      by_cases c19 : t164 = true
                                      · subst c19
                                        have H1 : (some (x7_3, x8_4, 0)) = some (r1, r2, r3) := by rw [if_pos rfl] at H; exact H
                                        clear H
                                        have H := H1
                                        clear H1
                                        simp only [Option.some.injEq, Prod.mk.injEq] at H
                                        obtain ⟨rfl, rfl, rfl⟩ := H
                                        obtain ⟨Ao21, co21, eo21⟩ := Kd.R_slice HO_6.out
                                        subst eo21
                                        have q20 : ((wrap64 (x7_3 + x5_2)) : Int) ≤ ((t153.length : Int) : Int) := of_decide_eq_true (by first | (with_reducible assumption) | assumption)
                                        obtain ⟨i020, hi020, _, hsz20, _⟩ := info_parts info47
                                        have hroom20 : t153.length ≤ co21 := (Kd.R_reads' HO_6.out).2.1
                                        have hC20 : Kd.C (Kd.int .u16) _ Ao21 t153.length t153 := (Kd.R_reads' HO_6.out).2.2
                                        have ql20 : (x7_3 : Int) ≤ ((wrap64 (x7_3 + x5_2)) : Int) := of_decide_eq_true (by first | (with_reducible assumption) | assumption)
                                        have q020 : (0 : Int) ≤ (x7_3 : Int) := of_decide_eq_true (by first | (with_reducible assumption) | assumption)
                                        have hcut20 := cut_mid (P := Try.prog) 34 47 .i64 .i64 Try.underlying34 hi020 1 hsz20 Ao21 t153.length co21 x7_3 (wrap64 (x7_3 + x5_2)) q020 ql20 q20 hroom20
                                        have hr20 := Kd.C_mid (lo := (x7_3 : Int).toNat) (hi := ((wrap64 (x7_3 + x5_2)) : Int).toNat) (c := co21) hC20 (by omega) (by omega) hroom20
                                        obtain ⟨A20, hA20⟩ : ∃ A1, A1 = (if co21 = (x7_3 : Int).toNat then Ao21 else (Ao21 : Option Addr).map (·.add ((x7_3 : Int).toNat * 1))) := ⟨_, rfl⟩
                                        obtain ⟨c20, hc20⟩ : ∃ c1, c1 = co21 - (x7_3 : Int).toNat := ⟨_, rfl⟩
                                        have hy20 : y156.length = ((wrap64 (x7_3 + x5_2)) : Int).toNat - (x7_3 : Int).toNat := (by rw [Ny156.out, List.length_drop, List.length_take] <;> omega)
                                        rw [show ((t153).take ((wrap64 (x7_3 + x5_2)) : Int).toNat).drop (x7_3 : Int).toNat = y156 from Ny156.out.symm] at hr20
                                        replace hr20 : Kd.C (Kd.int .u16) _ A20 y156.length y156 := (by rw [hA20]; exact hr20)
                                        rw [← hy20, ← hA20, ← hc20] at hcut20
                                        have HR159 := Aside0.mk hr20
                                        have HC159 := Aside0.mk (show y156.length ≤ c20 from by rw [hy20, hc20]; exact Nat.sub_le_sub_right (Nat.le_trans (by omega) hroom20) _)
                                        clear hr20 hC20 hroom20 hi020 hsz20 hc20
                                        have KY20 := Aside0.mk hy20
                                        have KA20 := Aside0.mk hA20
                                        clear hy20 hA20
                                        have KL20 := Aside0.mk (show ((wrap64 (x7_3 + x5_2)) : Int).toNat ≤ t153.length from by omega)
                                        have KM20 := Aside0.mk (show (x7_3 : Int).toNat ≤ ((wrap64 (x7_3 + x5_2)) : Int).toNat from by omega)
                                        replace q20 := eq_true q20
                                        have q22 : ((wrap64 ((ji14) + x5_2)) : Int) ≤ ((t153.length : Int) : Int) := of_decide_eq_true (by first | (with_reducible assumption) | assumption)
                                        obtain ⟨i022, hi022, _, hsz22, _⟩ := info_parts info47
                                        have hroom22 : t153.length ≤ co21 := (Kd.R_reads' HO_6.out).2.1
                                        have hC22 : Kd.C (Kd.int .u16) _ Ao21 t153.length t153 := (Kd.R_reads' HO_6.out).2.2
                                        have ql22 : ((ji14) : Int) ≤ ((wrap64 ((ji14) + x5_2)) : Int) := of_decide_eq_true (by first | (with_reducible assumption) | assumption)
                                        have q022 : (0 : Int) ≤ ((ji14) : Int) := of_decide_eq_true (by first | (with_reducible assumption) | assumption)
                                        have hcut22 := cut_mid (P := Try.prog) 34 47 .i64 .i64 Try.underlying34 hi022 1 hsz22 Ao21 t153.length co21 (ji14) (wrap64 ((ji14) + x5_2)) q022 ql22 q22 hroom22
                                        have hr22 := Kd.C_mid (lo := ((ji14) : Int).toNat) (hi := ((wrap64 ((ji14) + x5_2)) : Int).toNat) (c := co21) hC22 (by omega) (by omega) hroom22
                                        obtain ⟨A22, hA22⟩ : ∃ A1, A1 = (if co21 = ((ji14) : Int).toNat then Ao21 else (Ao21 : Option Addr).map (·.add (((ji14) : Int).toNat * 1))) := ⟨_, rfl⟩
                                        obtain ⟨c22, hc22⟩ : ∃ c1, c1 = co21 - ((ji14) : Int).toNat := ⟨_, rfl⟩
                                        have hy22 : y160.length = ((wrap64 ((ji14) + x5_2)) : Int).toNat - ((ji14) : Int).toNat := (by rw [Ny160.out, List.length_drop, List.length_take] <;> omega)
                                        rw [show ((t153).take ((wrap64 ((ji14) + x5_2)) : Int).toNat).drop ((ji14) : Int).toNat = y160 from Ny160.out.symm] at hr22
                                        replace hr22 : Kd.C (Kd.int .u16) _ A22 y160.length y160 := (by rw [hA22]; exact hr22)
                                        rw [← hy22, ← hA22, ← hc22] at hcut22
                                        have HR163 := Aside0.mk hr22
                                        have HC163 := Aside0.mk (show y160.length ≤ c22 from by rw [hy22, hc22]; exact Nat.sub_le_sub_right (Nat.le_trans (by omega) hroom22) _)
                                        clear hr22 hC22 hroom22 hi022 hsz22 hc22
                                        have KY22 := Aside0.mk hy22
                                        have KA22 := Aside0.mk hA22
                                        clear hy22 hA22
                                        have KL22 := Aside0.mk (show ((wrap64 ((ji14) + x5_2)) : Int).toNat ≤ t153.length from by omega)
                                        have KM22 := Aside0.mk (show ((ji14) : Int).toNat ≤ ((wrap64 ((ji14) + x5_2)) : Int).toNat from by omega)
                                        replace q22 := eq_true q22
                                        go_wp2_with (first | (go_at_call 67; (with_reducible refine (impl_Nimber.calls k4 _ _ y156 _ _ y160 true _ ?side1 ?side2 ?side3 ?side4 A18.out).mono ?_); (case side1 => repeat (first | exact (by repeat (first | (with_reducible exact HR159.out) | (with_reducible refine Kd.C_alloc ?_ _) | (with_reducible refine Kd.C_drewN ?_ _) | (with_reducible refine Kd.C_drew ?_) | exact HR159.out)) | (with_reducible refine Kd.C_alloc ?_ _) | (with_reducible refine Kd.C_drewN ?_ _) | (with_reducible refine Kd.C_drew ?_))); (case side2 => exact HC159.out); (case side3 => repeat (first | exact (by repeat (first | (with_reducible exact HR163.out) | (with_reducible refine Kd.C_alloc ?_ _) | (with_reducible refine Kd.C_drewN ?_ _) | (with_reducible refine Kd.C_drew ?_) | exact HR163.out)) | (with_reducible refine Kd.C_alloc ?_ _) | (with_reducible refine Kd.C_drewN ?_ _) | (with_reducible refine Kd.C_drew ?_))); (case side4 => exact HC163.out); rintro e w' ⟨rfl, ⟨nd, rfl⟩⟩; (try first | exact ⟨rfl, _, World.drewN_drewN _ _ _⟩ | exact ⟨rfl, _, Eq.trans (World.drewN_drewN _ _ _) (congrArg (World.drewN _) (Nat.add_assoc _ _ _))⟩)))
                                        repeat (go_quiet (first | (go_at_call 67; (with_reducible refine (impl_Nimber.calls k4 _ _ y156 _ _ y160 true _ ?side1 ?side2 ?side3 ?side4 A18.out).mono ?_); (case side1 => repeat (first | exact (by repeat (first | (with_reducible exact HR159.out) | (with_reducible refine Kd.C_alloc ?_ _) | (with_reducible refine Kd.C_drewN ?_ _) | (with_reducible refine Kd.C_drew ?_) | exact HR159.out)) | (with_reducible refine Kd.C_alloc ?_ _) | (with_reducible refine Kd.C_drewN ?_ _) | (with_reducible refine Kd.C_drew ?_))); (case side2 => exact HC159.out); (case side3 => repeat (first | exact (by repeat (first | (with_reducible exact HR163.out) | (with_reducible refine Kd.C_alloc ?_ _) | (with_reducible refine Kd.C_drewN ?_ _) | (with_reducible refine Kd.C_drew ?_) | exact HR163.out)) | (with_reducible refine Kd.C_alloc ?_ _) | (with_reducible refine Kd.C_drewN ?_ _) | (with_reducible refine Kd.C_drew ?_))); (case side4 => exact HC163.out); rintro e w' ⟨rfl, ⟨nd, rfl⟩⟩; (try first | exact ⟨rfl, _, World.drewN_drewN _ _ _⟩ | exact ⟨rfl, _, Eq.trans (World.drewN_drewN _ _ _) (congrArg (World.drewN _) (Nat.add_assoc _ _ _))⟩))); try go_wp2_with (first | (go_at_call 67; (with_reducible refine (impl_Nimber.calls k4 _ _ y156 _ _ y160 true _ ?side1 ?side2 ?side3 ?side4 A18.out).mono ?_); (case side1 => repeat (first | exact (by repeat (first | (with_reducible exact HR159.out) | (with_reducible refine Kd.C_alloc ?_ _) | (with_reducible refine Kd.C_drewN ?_ _) | (with_reducible refine Kd.C_drew ?_) | exact HR159.out)) | (with_reducible refine Kd.C_alloc ?_ _) | (with_reducible refine Kd.C_drewN ?_ _) | (with_reducible refine Kd.C_drew ?_))); (case side2 => exact HC159.out); (case side3 => repeat (first | exact (by repeat (first | (with_reducible exact HR163.out) | (with_reducible refine Kd.C_alloc ?_ _) | (with_reducible refine Kd.C_drewN ?_ _) | (with_reducible refine Kd.C_drew ?_) | exact HR163.out)) | (with_reducible refine Kd.C_alloc ?_ _) | (with_reducible refine Kd.C_drewN ?_ _) | (with_reducible refine Kd.C_drew ?_))); (case side4 => exact HC163.out); rintro e w' ⟨rfl, ⟨nd, rfl⟩⟩; (try first | exact ⟨rfl, _, World.drewN_drewN _ _ _⟩ | exact ⟨rfl, _, Eq.trans (World.drewN_drewN _ _ _) (congrArg (World.drewN _) (Nat.add_assoc _ _ _))⟩))))
                                        go_ret3
                                        exact ⟨by first | rfl | (simp [errW_none, errW_some] <;> rfl) | (simp only [← hji14]; first | rfl | (simp [errW_none, errW_some] <;> rfl)) | (simp [*, errW_none, errW_some] <;> rfl), by repeat (first | (with_reducible first | exact HB.out | apply below_alloc | apply pw_below_drewN | apply below_drew1) | exact HB.out)⟩
                                      · replace c19 := Bool.eq_false_iff.mpr c19
                                        subst c19
                                        have H1 : (impl_TakePeriod.l2 k4 x5_2 t153 x7_3 (wrap64 (x8_4 + 1))) = some (r1, r2, r3) := by rw [if_neg (show ¬ (false = true) by decide)] at H; exact H
                                        clear H
                                        have H := H1
                                        clear H1
                                        have H' := Aside0.mk H
                                        clear H
                                        obtain ⟨Ao24, co24, eo24⟩ := Kd.R_slice HO_6.out
                                        subst eo24
                                        have q23 : ((wrap64 (x7_3 + x5_2)) : Int) ≤ ((t153.length : Int) : Int) := of_decide_eq_true (by first | (with_reducible assumption) | assumption)
                                        obtain ⟨i023, hi023, _, hsz23, _⟩ := info_parts info47
                                        have hroom23 : t153.length ≤ co24 := (Kd.R_reads' HO_6.out).2.1
                                        have hC23 : Kd.C (Kd.int .u16) _ Ao24 t153.length t153 := (Kd.R_reads' HO_6.out).2.2
                                        have ql23 : (x7_3 : Int) ≤ ((wrap64 (x7_3 + x5_2)) : Int) := of_decide_eq_true (by first | (with_reducible assumption) | assumption)
                                        have q023 : (0 : Int) ≤ (x7_3 : Int) := of_decide_eq_true (by first | (with_reducible assumption) | assumption)
                                        have hcut23 := cut_mid (P := Try.prog) 34 47 .i64 .i64 Try.underlying34 hi023 1 hsz23 Ao24 t153.length co24 x7_3 (wrap64 (x7_3 + x5_2)) q023 ql23 q23 hroom23
                                        have hr23 := Kd.C_mid (lo := (x7_3 : Int).toNat) (hi := ((wrap64 (x7_3 + x5_2)) : Int).toNat) (c := co24) hC23 (by omega) (by omega) hroom23
                                        obtain ⟨A23, hA23⟩ : ∃ A1, A1 = (if co24 = (x7_3 : Int).toNat then Ao24 else (Ao24 : Option Addr).map (·.add ((x7_3 : Int).toNat * 1))) := ⟨_, rfl⟩
                                        obtain ⟨c23, hc23⟩ : ∃ c1, c1 = co24 - (x7_3 : Int).toNat := ⟨_, rfl⟩
                                        have hy23 : y156.length = ((wrap64 (x7_3 + x5_2)) : Int).toNat - (x7_3 : Int).toNat := (by rw [Ny156.out, List.length_drop, List.length_take] <;> omega)
                                        rw [show ((t153).take ((wrap64 (x7_3 + x5_2)) : Int).toNat).drop (x7_3 : Int).toNat = y156 from Ny156.out.symm] at hr23
                                        replace hr23 : Kd.C (Kd.int .u16) _ A23 y156.length y156 := (by rw [hA23]; exact hr23)
                                        rw [← hy23, ← hA23, ← hc23] at hcut23
                                        have HR159 := Aside0.mk hr23
                                        have HC159 := Aside0.mk (show y156.length ≤ c23 from by rw [hy23, hc23]; exact Nat.sub_le_sub_right (Nat.le_trans (by omega) hroom23) _)
                                        clear hr23 hC23 hroom23 hi023 hsz23 hc23
                                        have KY23 := Aside0.mk hy23
                                        have KA23 := Aside0.mk hA23
                                        clear hy23 hA23
                                        have KL23 := Aside0.mk (show ((wrap64 (x7_3 + x5_2)) : Int).toNat ≤ t153.length from by omega)
                                        have KM23 := Aside0.mk (show (x7_3 : Int).toNat ≤ ((wrap64 (x7_3 + x5_2)) : Int).toNat from by omega)
                                        replace q23 := eq_true q23
                                        have q25 : ((wrap64 ((ji14) + x5_2)) : Int) ≤ ((t153.length : Int) : Int) := of_decide_eq_true (by first | (with_reducible assumption) | assumption)
                                        obtain ⟨i025, hi025, _, hsz25, _⟩ := info_parts info47
                                        have hroom25 : t153.length ≤ co24 := (Kd.R_reads' HO_6.out).2.1
                                        have hC25 : Kd.C (Kd.int .u16) _ Ao24 t153.length t153 := (Kd.R_reads' HO_6.out).2.2
                                        have ql25 : ((ji14) : Int) ≤ ((wrap64 ((ji14) + x5_2)) : Int) := of_decide_eq_true (by first | (with_reducible assumption) | assumption)
                                        have q025 : (0 : Int) ≤ ((ji14) : Int) := of_decide_eq_true (by first | (with_reducible assumption) | assumption)
                                        have hcut25 := cut_mid (P := Try.prog) 34 47 .i64 .i64 Try.underlying34 hi025 1 hsz25 Ao24 t153.length co24 (ji14) (wrap64 ((ji14) + x5_2)) q025 ql25 q25 hroom25
                                        have hr25 := Kd.C_mid (lo := ((ji14) : Int).toNat) (hi := ((wrap64 ((ji14) + x5_2)) : Int).toNat) (c := co24) hC25 (by omega) (by omega) hroom25
                                        obtain ⟨A25, hA25⟩ : ∃ A1, A1 = (if co24 = ((ji14) : Int).toNat then Ao24 else (Ao24 : Option Addr).map (·.add (((ji14) : Int).toNat * 1))) := ⟨_, rfl⟩
                                        obtain ⟨c25, hc25⟩ : ∃ c1, c1 = co24 - ((ji14) : Int).toNat := ⟨_, rfl⟩
                                        have hy25 : y160.length = ((wrap64 ((ji14) + x5_2)) : Int).toNat - ((ji14) : Int).toNat := (by rw [Ny160.out, List.length_drop, List.length_take] <;> omega)
                                        rw [show ((t153).take ((wrap64 ((ji14) + x5_2)) : Int).toNat).drop ((ji14) : Int).toNat = y160 from Ny160.out.symm] at hr25
                                        replace hr25 : Kd.C (Kd.int .u16) _ A25 y160.length y160 := (by rw [hA25]; exact hr25)
                                        rw [← hy25, ← hA25, ← hc25] at hcut25
                                        have HR163 := Aside0.mk hr25
                                        have HC163 := Aside0.mk (show y160.length ≤ c25 from by rw [hy25, hc25]; exact Nat.sub_le_sub_right (Nat.le_trans (by omega) hroom25) _)
                                        clear hr25 hC25 hroom25 hi025 hsz25 hc25
                                        have KY25 := Aside0.mk hy25
                                        have KA25 := Aside0.mk hA25
                                        clear hy25 hA25
                                        have KL25 := Aside0.mk (show ((wrap64 ((ji14) + x5_2)) : Int).toNat ≤ t153.length from by omega)
                                        have KM25 := Aside0.mk (show ((ji14) : Int).toNat ≤ ((wrap64 ((ji14) + x5_2)) : Int).toNat from by omega)
                                        replace q25 := eq_true q25
                                        go_wp2_with (first | (go_at_call 67; (with_reducible refine (impl_Nimber.calls k4 _ _ y156 _ _ y160 false _ ?side1 ?side2 ?side3 ?side4 A18.out).mono ?_); (case side1 => repeat (first | exact (by repeat (first | (with_reducible exact HR159.out) | (with_reducible refine Kd.C_alloc ?_ _) | (with_reducible refine Kd.C_drewN ?_ _) | (with_reducible refine Kd.C_drew ?_) | exact HR159.out)) | (with_reducible refine Kd.C_alloc ?_ _) | (with_reducible refine Kd.C_drewN ?_ _) | (with_reducible refine Kd.C_drew ?_))); (case side2 => exact HC159.out); (case side3 => repeat (first | exact (by repeat (first | (with_reducible exact HR163.out) | (with_reducible refine Kd.C_alloc ?_ _) | (with_reducible refine Kd.C_drewN ?_ _) | (with_reducible refine Kd.C_drew ?_) | exact HR163.out)) | (with_reducible refine Kd.C_alloc ?_ _) | (with_reducible refine Kd.C_drewN ?_ _) | (with_reducible refine Kd.C_drew ?_))); (case side4 => exact HC163.out); rintro e w' ⟨rfl, ⟨nd, rfl⟩⟩; (try first | exact ⟨rfl, _, World.drewN_drewN _ _ _⟩ | exact ⟨rfl, _, Eq.trans (World.drewN_drewN _ _ _) (congrArg (World.drewN _) (Nat.add_assoc _ _ _))⟩)))
                                        repeat (go_quiet (first | (go_at_call 67; (with_reducible refine (impl_Nimber.calls k4 _ _ y156 _ _ y160 false _ ?side1 ?side2 ?side3 ?side4 A18.out).mono ?_); (case side1 => repeat (first | exact (by repeat (first | (with_reducible exact HR159.out) | (with_reducible refine Kd.C_alloc ?_ _) | (with_reducible refine Kd.C_drewN ?_ _) | (with_reducible refine Kd.C_drew ?_) | exact HR159.out)) | (with_reducible refine Kd.C_alloc ?_ _) | (with_reducible refine Kd.C_drewN ?_ _) | (with_reducible refine Kd.C_drew ?_))); (case side2 => exact HC159.out); (case side3 => repeat (first | exact (by repeat (first | (with_reducible exact HR163.out) | (with_reducible refine Kd.C_alloc ?_ _) | (with_reducible refine Kd.C_drewN ?_ _) | (with_reducible refine Kd.C_drew ?_) | exact HR163.out)) | (with_reducible refine Kd.C_alloc ?_ _) | (with_reducible refine Kd.C_drewN ?_ _) | (with_reducible refine Kd.C_drew ?_))); (case side4 => exact HC163.out); rintro e w' ⟨rfl, ⟨nd, rfl⟩⟩; (try first | exact ⟨rfl, _, World.drewN_drewN _ _ _⟩ | exact ⟨rfl, _, Eq.trans (World.drewN_drewN _ _ _) (congrArg (World.drewN _) (Nat.add_assoc _ _ _))⟩))); try go_wp2_with (first | (go_at_call 67; (with_reducible refine (impl_Nimber.calls k4 _ _ y156 _ _ y160 false _ ?side1 ?side2 ?side3 ?side4 A18.out).mono ?_); (case side1 => repeat (first | exact (by repeat (first | (with_reducible exact HR159.out) | (with_reducible refine Kd.C_alloc ?_ _) | (with_reducible refine Kd.C_drewN ?_ _) | (with_reducible refine Kd.C_drew ?_) | exact HR159.out)) | (with_reducible refine Kd.C_alloc ?_ _) | (with_reducible refine Kd.C_drewN ?_ _) | (with_reducible refine Kd.C_drew ?_))); (case side2 => exact HC159.out); (case side3 => repeat (first | exact (by repeat (first | (with_reducible exact HR163.out) | (with_reducible refine Kd.C_alloc ?_ _) | (with_reducible refine Kd.C_drewN ?_ _) | (with_reducible refine Kd.C_drew ?_) | exact HR163.out)) | (with_reducible refine Kd.C_alloc ?_ _) | (with_reducible refine Kd.C_drewN ?_ _) | (with_reducible refine Kd.C_drew ?_))); (case side4 => exact HC163.out); rintro e w' ⟨rfl, ⟨nd, rfl⟩⟩; (try first | exact ⟨rfl, _, World.drewN_drewN _ _ _⟩ | exact ⟨rfl, _, Eq.trans (World.drewN_drewN _ _ _) (congrArg (World.drewN _) (Nat.add_assoc _ _ _))⟩))))
                                        go_roundg k4
                                        case measure => have := HJ1.out; have := HK2.out; have := HK3.out; have := HK4.out; omega
                                        case rel => exact ⟨(wrap64 (x8_4 + 1)), (by first | rfl | (simp; done) | (simp [*]; done)), H', ⟨by have := HJ1.out; have := HK2.out; have := HK3.out; have := HK4.out; omega⟩, ⟨by (with_reducible repeat (first | apply Kd.R_alloc | apply Kd.R_drewN | apply Kd.R_drew)); exact HO_6.out⟩, ⟨by repeat (first | (with_reducible first | exact HB.out | apply below_alloc | apply pw_below_drewN | apply below_drew1) | exact HB.out)⟩⟩
                                    · rw [if_neg c17] at H
                                      exact absurd H (by simp)
                                  · rw [if_neg c16] at H
                                    exact absurd H (by simp)
                                · rw [if_neg c15] at H
                                  exact absurd H (by simp)
                              · rw [if_neg c13] at H
                                exact absurd H (by simp)
                            · rw [if_neg c12] at H
                              exact absurd H (by simp)
                          · rw [if_neg c11] at H
                            exact absurd H (by simp)
                        · rw [if_neg c10] at H
                          have c10b0 : decide ((wrap64 ((wrap64 (x7_3 + x8_4)) + x5_2)) ≤ 500) = false := decide_eq_false c10
                          clear c10
                          have H' := Aside0.mk H
                          clear H
                          go_wp2
                          repeat (go_quiet (fail); try go_wp2)
                          go_roundg k4
                          case measure => have := HJ1.out; have := HK2.out; have := HK3.out; have := HK4.out; omega
                          case rel => exact ⟨(wrap64 (x7_3 + 1)), (by first | rfl | (simp; done) | (simp [*]; done)), H', ⟨by have := HJ1.out; have := HK2.out; have := HK3.out; have := HK4.out; omega⟩, ⟨by (with_reducible repeat (first | apply Kd.R_alloc | apply Kd.R_drewN | apply Kd.R_drew)); exact HO_6.out⟩, ⟨by repeat (first | (with_reducible first | exact HB.out | apply below_alloc | apply pw_below_drewN | apply below_drew1) | exact HB.out)⟩⟩
                  · rw [if_neg c9] at H
                    have c9b0 : decide ((wrap64 ((wrap64 (x7_3 + 1)) + x5_2)) ≤ 500) = false := decide_eq_false c9
                    clear c9
                    simp only [Option.some.injEq, Prod.mk.injEq] at H
                    obtain ⟨rfl, rfl, rfl⟩ := H
                    go_wp2
                    repeat (go_quiet (fail); try go_wp2)
                    go_ret3
                    exact ⟨by first | rfl | (simp [errW_none, errW_some] <;> rfl) | (simp [*, errW_none, errW_some] <;> rfl), by repeat (first | (with_reducible first | exact HB.out | apply below_alloc | apply pw_below_drewN | apply below_drew1) | exact HB.out)⟩
            · replace c6 := Bool.eq_false_iff.mpr c6
              subst c6
              have H1 : (impl_TakePeriod.l0 k2 a0 (wrap64 (x5_2 - 1))) = some (r1, r2, r3) := by rw [if_neg (show ¬ (false = true) by decide)] at H; exact H
              clear H
              have H := H1
              clear H1
              have H' := Aside0.mk H
              clear H
              go_wp2_with (first | (go_at_call 66; (with_reducible refine (impl_mayTake.calls a0 x5_2 false _ A5.out).mono ?_); rintro e w' ⟨rfl, ⟨nd, rfl⟩⟩; (try first | exact ⟨rfl, _, World.drewN_drewN _ _ _⟩ | exact ⟨rfl, _, Eq.trans (World.drewN_drewN _ _ _) (congrArg (World.drewN _) (Nat.add_assoc _ _ _))⟩)))
              repeat (go_quiet (first | (go_at_call 66; (with_reducible refine (impl_mayTake.calls a0 x5_2 false _ A5.out).mono ?_); rintro e w' ⟨rfl, ⟨nd, rfl⟩⟩; (try first | exact ⟨rfl, _, World.drewN_drewN _ _ _⟩ | exact ⟨rfl, _, Eq.trans (World.drewN_drewN _ _ _) (congrArg (World.drewN _) (Nat.add_assoc _ _ _))⟩))); try go_wp2_with (first | (go_at_call 66; (with_reducible refine (impl_mayTake.calls a0 x5_2 false _ A5.out).mono ?_); rintro e w' ⟨rfl, ⟨nd, rfl⟩⟩; (try first | exact ⟨rfl, _, World.drewN_drewN _ _ _⟩ | exact ⟨rfl, _, Eq.trans (World.drewN_drewN _ _ _) (congrArg (World.drewN _) (Nat.add_assoc _ _ _))⟩))))
              go_roundg k2
              case measure => have := HJ1.out; have := HK2.out; omega
              case rel => exact ⟨(wrap64 (x5_2 - 1)), (by first | rfl | (simp; done) | (simp [*]; done)), H', ⟨by have := HJ1.out; have := HK2.out; omega⟩, ⟨by repeat (first | (with_reducible first | exact HB.out | apply below_alloc | apply pw_below_drewN | apply below_drew1) | exact HB.out)⟩⟩

end Go.Proofs.Ytbhjkaiiebpopaa.PFnExactTakePeriod
