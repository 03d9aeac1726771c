/- Written by the session's own program (wip/myprint.py), for the law FnExactCountWinningTurns: each function as a plain Lean function, and its contract. -/
import Derived.Test.YtnicjjnghclgpaaDoorShDf
import Derived.Test.YtnicjjnghclgpaaDoorQFnExactCountWinningTurnsx0
import Derived.Test.YtnicjjnghclgpaaDoorQFnExactCountWinningTurnsx3
import Derived.Test.YtnicjjnghclgpaaDoorQFnExactCountWinningTurnsx10
namespace Go.Proofs.YtnicjjnghclgpaaDoor.QFnExactCountWinningTurns
open Go.RowKit Go.Proofs.YtnicjjnghclgpaaDoorW.PrintWords Go.Proofs.YtnicjjnghclgpaaDoorW.PrintLast Go.Proofs.YtnicjjnghclgpaaDoorW.PrintMore
attribute [local go_sem] max2_int min2_int max_two min_two max_three min_three max_four min_four   -- for this text's walks alone
set_option linter.unusedVariables false
set_option linter.unusedSimpArgs false

/-! ### impl_coinValues: function 28 -/
mutual
def impl_coinValues.l0 : Nat → Int → List Int → Int → Int → Option (List Int)
  | 0, _, _, _, _ => none
  | k + 1, x0, x5, x11, x12 => if x12 < x11 then ((impl_turnsAt.f k x0 x12).bind fun t281 => (impl_coinValues.l1 k x0 x5 x12 (([] : List Int)) x11 x12 t281 (t281.length : Int) 0)) else (some x5)
def impl_coinValues.l1 : Nat → Int → List Int → Int → List Int → Int → Int → List Int → Int → Int → Option (List Int)
  | 0, _, _, _, _, _, _, _, _, _ => none
  | k + 1, x0, x5, x6, x7, x11, x12, x18, x19, x20 => if x20 < x19 then (if 0 ≤ x20 then (if x20 < (x18.length : Int) then (if 0 ≤ x6 then ((impl_rowOf.f k x5 (Go.bits .andNot .u32 (rd x18 x20) (shl .u32 1 x6))).bind fun t285 => (if x7.length < 70368744177664 then (impl_coinValues.l1 k x0 x5 x6 (x7 ++ [t285]) x11 x12 x18 x19 (wrap64 (x20 + 1))) else (none))) else (none)) else (none)) else (none)) else ((impl_mex.f k x7).bind fun t289 => (if x5.length < 70368744177664 then (impl_coinValues.l0 k x0 (x5 ++ [IntKind.u16.wrap (t289)]) x11 (wrap64 (x12 + 1))) else (none)))
end
def impl_coinValues.f (k : Nat) (a0 : Int) (a1 : Int) : Option (List Int) := impl_coinValues.l0 k a0 (([] : List Int)) a1 0
theorem impl_coinValues.mono_l : ∀ k, (∀ y0 y1 y2 y3, LeO (impl_coinValues.l0 k y0 y1 y2 y3) (impl_coinValues.l0 (k + 1) y0 y1 y2 y3)) ∧ (∀ y0 y1 y2 y3 y4 y5 y6 y7 y8, LeO (impl_coinValues.l1 k y0 y1 y2 y3 y4 y5 y6 y7 y8) (impl_coinValues.l1 (k + 1) y0 y1 y2 y3 y4 y5 y6 y7 y8))
  | 0 => ⟨fun _ _ _ _ r h => by simp [impl_coinValues.l0] at h, fun _ _ _ _ _ _ _ _ _ r h => by simp [impl_coinValues.l1] at h⟩
  | k + 1 => by
    obtain ⟨ih0, ih1⟩ := impl_coinValues.mono_l k
    refine ⟨?_, ?_⟩
    · intro y0 y1 y2 y3
      unfold impl_coinValues.l0
      repeat' first
      | (with_reducible exact ih0 _ _ _ _)
      | (with_reducible exact ih1 _ _ _ _ _ _ _ _ _)
      | (with_reducible exact impl_mex.mono _ _)
      | (with_reducible exact impl_rowOf.mono _ _ _)
      | (with_reducible exact impl_turnsAt.mono _ _ _)
      | (with_reducible exact LeO.refl _)
      | (with_reducible exact LeO.none _)
      | (with_reducible refine LeO.ite ?_ ?_)
      | (with_reducible refine LeO.bind ?_ (fun _ => ?_))
      | exact ih0 _ _ _ _
      | exact ih1 _ _ _ _ _ _ _ _ _
      | exact impl_mex.mono _ _
      | exact impl_rowOf.mono _ _ _
      | exact impl_turnsAt.mono _ _ _
      | exact LeO.none _
      | refine LeO.ite ?_ ?_
      | refine LeO.bind ?_ (fun _ => ?_)
    · intro y0 y1 y2 y3 y4 y5 y6 y7 y8
      unfold impl_coinValues.l1
      repeat' first
      | (with_reducible exact ih0 _ _ _ _)
      | (with_reducible exact ih1 _ _ _ _ _ _ _ _ _)
      | (with_reducible exact impl_mex.mono _ _)
      | (with_reducible exact impl_rowOf.mono _ _ _)
      | (with_reducible exact impl_turnsAt.mono _ _ _)
      | (with_reducible exact LeO.refl _)
      | (with_reducible exact LeO.none _)
      | (with_reducible refine LeO.ite ?_ ?_)
      | (with_reducible refine LeO.bind ?_ (fun _ => ?_))
      | exact ih0 _ _ _ _
      | exact ih1 _ _ _ _ _ _ _ _ _
      | exact impl_mex.mono _ _
      | exact impl_rowOf.mono _ _ _
      | exact impl_turnsAt.mono _ _ _
      | exact LeO.none _
      | refine LeO.ite ?_ ?_
      | refine LeO.bind ?_ (fun _ => ?_)
theorem impl_coinValues.mono : ∀ a0 a1 k, LeO (impl_coinValues.f k a0 a1) (impl_coinValues.f (k + 1) a0 a1) := by
  intro a0 a1 k
  obtain ⟨ih0, ih1⟩ := impl_coinValues.mono_l k
  unfold impl_coinValues.f
  repeat' first
      | (with_reducible exact ih0 _ _ _ _)
      | (with_reducible exact ih1 _ _ _ _ _ _ _ _ _)
      | (with_reducible exact impl_mex.mono _ _)
      | (with_reducible exact impl_rowOf.mono _ _ _)
      | (with_reducible exact impl_turnsAt.mono _ _ _)
      | (with_reducible exact LeO.refl _)
      | (with_reducible exact LeO.none _)
      | (with_reducible refine LeO.ite ?_ ?_)
      | (with_reducible refine LeO.bind ?_ (fun _ => ?_))
      | exact ih0 _ _ _ _
      | exact ih1 _ _ _ _ _ _ _ _ _
      | exact impl_mex.mono _ _
      | exact impl_rowOf.mono _ _ _
      | exact impl_turnsAt.mono _ _ _
      | exact LeO.none _
      | refine LeO.ite ?_ ?_
      | refine LeO.bind ?_ (fun _ => ?_)
set_option maxHeartbeats 8000000 in
set_option maxRecDepth 100000 in
theorem impl_coinValues.calls (k : Nat) (a0 : Int) (a1 : Int) (r : List Int) (w : World) (hLaid32_ : Laid32 w) (h : impl_coinValues.f k a0 a1 = some r) :
    Calls Tryd.prog 28 #[.int .i64 a0, .int .i64 a1] w fun e w' => ∃ v0_ : Value, e = .returned (v0_) ∧ Kd.R (Kd.int .u16) 35 w' w.heap.size (fun _ => True) v0_ r ∧ Below w.heap.size w w' := by
  have HLaid32_ := Aside0.mk hLaid32_
  clear hLaid32_
  have HB := Aside0.mk (Below.refl w.heap.size w)
  have H : (impl_coinValues.l0 k a0 (([] : List Int)) a1 0) = some r := h
  clear h
  obtain ⟨y275, hy275⟩ : ∃ y_ : List Int, y_ = (([] : List Int)) := ⟨_, rfl⟩
  replace H : (impl_coinValues.l0 k a0 y275 a1 0) = some r := by first | (rw [hy275]; with_reducible exact H) | (have H2_ := (Option.bind_some _ _).symm.trans H; rw [hy275]; with_reducible exact H2_) | (have H2_ := (Option.bind_some _ _).symm.trans H; with_reducible exact H2_) | with_reducible exact H | (rw [hy275]; exact H) | exact H
  have Ny275 := Aside0.mk hy275
  clear hy275
  have H' := Aside0.mk H
  clear H
  go_enter Tryd.func28, Tryd.ntmps28
  go_wp2_with (first | ((with_reducible refine gate_dst (N := 10) rfl ?_); refine Kd.R_lit (Kd.int .u16) _ 35 ?hg (N := 10) ?hd (xs := ([] : List Int)) (inner := []) (ok := fun _ => True) (okp := fun _ => True) ?hr ?hp (fun _ hk => hk) trivial (Below.refl _ _) (Nat.le_refl _) (by simp) ?_; (case hd => rfl); (case hg => rfl); (case hr => first | (go_simp; done) | (go_simp; rfl)); (case hp => exact (Reps.none _ _)); intro v276 w3 ho4 hb hg_ hnew_; clear hg_ hnew_; (first | rw [← Ny275.out] at ho4 | (simp only [Int.reduceToNat] at ho4; rw [← Ny275.out] at ho4)); have n0_ := Aside0.mk (Kd.R_lower ho4 (below_size (by repeat (first | (with_reducible first | exact HB.out | apply below_alloc | apply pw_below_drewN | apply below_drew1) | exact HB.out)))); have n1_ := Aside0.mk (below_step (by repeat (first | (with_reducible first | exact HB.out | apply below_alloc | apply pw_below_drewN | apply below_drew1) | exact HB.out)) hb); clear HB; have HO277 := n0_; have HB := n1_; clear n0_ n1_; clear hb ho4))
  go_loopg [5, 12] k (fun kq v5 v12 w' => ∃ (x5_1 : List Int) (x12_1 : Int), v12 = .int .i64 x12_1 ∧ Aside0 (impl_coinValues.l0 kq a0 x5_1 a1 x12_1 = some r) ∧ Aside0 (kq ≤ k) ∧ Aside0 (Kd.R (Kd.int .u16) 35 w' w.heap.size (fun _ => True) v5 x5_1) ∧ Aside0 (Below w.heap.size w w'))
  case atStart => exact ⟨(y275), (0), (by first | rfl | (simp; done) | (simp [*]; done)), H', ⟨Nat.le_refl _⟩, ⟨by (with_reducible repeat (first | apply Kd.R_alloc | apply Kd.R_drewN | apply Kd.R_drew)); exact HO277.out⟩, ⟨by repeat (first | (with_reducible first | exact HB.out | apply below_alloc | apply pw_below_drewN | apply below_drew1) | exact HB.out)⟩⟩
  case round =>
    clear H'
    try clear c2
    try clear p2
    obtain ⟨x5_1, x12_1, rfl, HA, HK1, HO_5, HB⟩ := hrel
    cases gk with
    | zero => exact absurd HA.out (by simp [impl_coinValues.l0])
    | succ k1 =>
      have H := HA.out
      clear HA
      simp only [impl_coinValues.l0] at H
      by_cases c5 : x12_1 < a1
      · rw [if_pos c5] at H
        have c5b0 : decide (x12_1 < a1) = true := decide_eq_true c5
        clear c5
        obtain ⟨y278, hy278⟩ : ∃ y_ : List Int, y_ = (([] : List Int)) := ⟨_, rfl⟩
        replace H : ((impl_turnsAt.f k1 a0 x12_1).bind fun t281 => (impl_coinValues.l1 k1 a0 x5_1 x12_1 y278 a1 x12_1 t281 (t281.length : Int) 0)) = some r := by first | (rw [hy278]; with_reducible exact H) | (have H2_ := (Option.bind_some _ _).symm.trans H; rw [hy278]; with_reducible exact H2_) | (have H2_ := (Option.bind_some _ _).symm.trans H; with_reducible exact H2_) | with_reducible exact H | (rw [hy278]; exact H) | exact H
        have Ny278 := Aside0.mk hy278
        clear hy278
        replace H := Option.bind_eq_some_iff.mp H
        obtain ⟨t281, A60, H⟩ := H
        replace H : (impl_coinValues.l1 k1 a0 x5_1 x12_1 y278 a1 x12_1 t281 (t281.length : Int) 0) = some r := H
        have A6 := Aside0.mk A60
        clear A60
        have H' := Aside0.mk H
        clear H
        go_wp2_with (first | ((with_reducible refine gate_dst (N := 15) rfl ?_); refine Kd.R_lit (Kd.int .u16) _ 35 ?hg (N := 15) ?hd (xs := ([] : List Int)) (inner := []) (ok := fun _ => True) (okp := fun _ => True) ?hr ?hp (fun _ hk => hk) trivial (Below.refl _ _) (Nat.le_refl _) (by simp) ?_; (case hd => rfl); (case hg => rfl); (case hr => first | (go_simp; done) | (go_simp; rfl)); (case hp => exact (Reps.none _ _)); intro v279 w7 ho8 hb hg_ hnew_; clear hg_ hnew_; (first | rw [← Ny278.out] at ho8 | (simp only [Int.reduceToNat] at ho8; rw [← Ny278.out] at ho8)); have n0_ := Aside0.mk (Kd.R_elder' (by (with_reducible repeat (first | apply Kd.R_alloc | apply Kd.R_drewN | apply Kd.R_drew)); exact HO_5.out) (Kd.R_base ho8) hb); have n1_ := Aside0.mk (Kd.R_lower (Kd.R_new' ho8 (Kd.R_lt (by (with_reducible repeat (first | apply Kd.R_alloc | apply Kd.R_drewN | apply Kd.R_drew)); exact HO_5.out))) (below_size (by repeat (first | (with_reducible first | exact HB.out | apply below_alloc | apply pw_below_drewN | apply below_drew1) | exact HB.out)))); have n2_ := Aside0.mk (below_step (by repeat (first | (with_reducible first | exact HB.out | apply below_alloc | apply pw_below_drewN | apply below_drew1) | exact HB.out)) hb); clear HO_5; clear HB; have HO_5 := n0_; have HO280 := n1_; have HB := n2_; clear n0_ n1_ n2_; clear hb ho8) | ((with_reducible refine gate_callee (f := 26) rfl ?_); refine goesL_ (some 18) rfl rfl Tryd.func26 (by kernel_rfl) rfl #[.int .i64 a0, .int .i64 x12_1] rfl (by (try simp only [List.map_toArray, List.map_cons, List.map_nil]); first | done | rfl | (simp only [List.length_drop, List.length_take]; rfl)) ?_; (with_reducible refine (impl_turnsAt.calls k1 a0 x12_1 t281 _ (by repeat (first | exact HLaid32_.out | exact Laid32.below HLaid32_.out HB.out | exact Laid32.below HLaid32_.out (Drawn0.below ⟨⟨_, rfl⟩⟩) | apply Laid32.drew)) A6.out).mono ?_); rintro e w9 ⟨v282, rfl, ho0, hb⟩; refine ⟨_, rfl, ?_⟩; have n0_ := Aside0.mk (Kd.R_below (by (with_reducible repeat (first | apply Kd.R_alloc | apply Kd.R_drewN | apply Kd.R_drew)); exact HO_5.out) hb); have n1_ := Aside0.mk (Kd.R_below (by (with_reducible repeat (first | apply Kd.R_alloc | apply Kd.R_drewN | apply Kd.R_drew)); exact HO280.out) hb); have n2_ := Aside0.mk (Kd.R_lower ho0 (below_size (by repeat (first | (with_reducible first | exact HB.out | apply below_alloc | apply pw_below_drewN | apply below_drew1) | exact HB.out)))); have n3_ := Aside0.mk (below_step (by repeat (first | (with_reducible first | exact HB.out | apply below_alloc | apply pw_below_drewN | apply below_drew1) | exact HB.out)) hb); clear HO_5; clear HO280; clear HB; have HO_5 := n0_; have HO280 := n1_; have HO283 := n2_; have HB := n3_; clear n0_ n1_ n2_ n3_; (try clear hb); (try clear hb2); (try clear hk); (try clear hi); (try clear ho0); obtain ⟨Ao10, co10, eo10⟩ := Kd.R_slice HO283.out; subst eo10))
        go_loopg [7, 20] k1 (fun kq v7 v20 w' => ∃ (x7_2 : List Int) (x20_2 : Int), v20 = .int .i64 x20_2 ∧ Aside0 (impl_coinValues.l1 kq a0 x5_1 x12_1 x7_2 a1 x12_1 t281 (t281.length : Int) x20_2 = some r) ∧ Aside0 (kq ≤ k1) ∧ Aside0 (Kd.R (Kd.int .u16) 35 w' w.heap.size (fun k_ => some k_ ≠ (v7 : Value).ownBlock) u5 x5_1) ∧ Aside0 (Kd.R (Kd.int .u16) 35 w' w.heap.size (fun k_ => some k_ ≠ (u5 : Value).ownBlock) v7 x7_2) ∧ Aside0 (Kd.R (Kd.int .u32) 33 w' w.heap.size (fun _ => True) (.slice Ao10 t281.length co10) t281) ∧ Aside0 (Below w.heap.size w w'))
        case atStart => exact ⟨(y278), (0), (by first | rfl | (simp; done) | (simp [*]; done)), H', ⟨Nat.le_refl _⟩, ⟨by (with_reducible repeat (first | apply Kd.R_alloc | apply Kd.R_drewN | apply Kd.R_drew)); exact Kd.R_mono HO_5.out (fun _ hk => hk.2)⟩, ⟨by (with_reducible repeat (first | apply Kd.R_alloc | apply Kd.R_drewN | apply Kd.R_drew)); exact Kd.R_mono HO280.out (fun _ hk => hk.2)⟩, ⟨by (with_reducible repeat (first | apply Kd.R_alloc | apply Kd.R_drewN | apply Kd.R_drew)); exact HO283.out⟩, ⟨by repeat (first | (with_reducible first | exact HB.out | apply below_alloc | apply pw_below_drewN | apply below_drew1) | exact HB.out)⟩⟩
        case round =>
          clear H'
          try clear c2
          try clear p2
          try clear c5
          try clear c5b0
          try clear p2
          obtain ⟨x7_2, x20_2, rfl, HA, HK2, HO_5, HO_7, HO_18, HB⟩ := hrel
          cases gk with
          | zero => exact absurd HA.out (by simp [impl_coinValues.l1])
          | succ k2 =>
            have H := HA.out
            clear HA
            simp only [impl_coinValues.l1] at H
            by_cases c11 : x20_2 < (t281.length : Int)
            · rw [if_pos c11] at H
              have c11b0 : decide (x20_2 < (t281.length : Int)) = true := decide_eq_true c11
              clear c11
              by_cases c12 : 0 ≤ x20_2
              · rw [if_pos c12] at H
                have c12b0 : decide (0 ≤ x20_2) = true := decide_eq_true c12
                clear c12
                by_cases c13 : x20_2 < (t281.length : Int)
                · rw [if_pos c13] at H
                  have c13b0 : decide (x20_2 < (t281.length : Int)) = true := decide_eq_true c13
                  clear c13
                  by_cases c14 : 0 ≤ x12_1
                  · rw [if_pos c14] at H
                    have c14b0 := eq_true c14
                    have c14b1 : decide (0 ≤ x12_1) = true := decide_eq_true c14
                    clear c14
                    obtain ⟨ji15, hji15⟩ : ∃ j_ : Int, (shl .u32 1 x12_1) = j_ := ⟨_, rfl⟩
                    replace H : ((impl_rowOf.f k2 x5_1 (Go.bits .andNot .u32 (rd t281 x20_2) (ji15))).bind fun t285 => (if x7_2.length < 70368744177664 then (impl_coinValues.l1 k2 a0 x5_1 x12_1 (x7_2 ++ [t285]) a1 x12_1 t281 (t281.length : Int) (wrap64 (x20_2 + 1))) else (none))) = some r := by first | (rw [hji15] at H; exact H) | (simp only [hji15] at H ⊢; exact H)
                    have hji15_ : (IntKind.u32.wrap (1 * 2 ^ min x12_1.toNat 32)) = ji15 := hji15
                    have hji15z : x12_1 ≤ 32 → (IntKind.u32.wrap (1 * 2 ^ x12_1.toNat)) = ji15 := shl_small hji15
                    have hji15n : 0 ≤ (ji15) := by rw [← hji15]; simp only [shl, IntKind.wrap, IntKind.signed, IntKind.bits, Bool.false_and, Bool.false_eq_true, if_false]; exact Int.emod_nonneg _ (by decide)
                    have hji15n0 := eq_true hji15n
                    have hji15n1 : decide (0 ≤ (ji15)) = true := decide_eq_true hji15n
                    clear hji15n
                    have hji15u : (IntKind.u32.wrap (2 ^ min x12_1.toNat 32)) = ji15 := by have h_ := hji15_; rw [Int.one_mul] at h_; exact h_
                    have hji15v : x12_1 ≤ 32 → (IntKind.u32.wrap (2 ^ x12_1.toNat)) = ji15 := fun hle_ => by have h_ := hji15z hle_; rw [Int.one_mul] at h_; exact h_
                    replace H := Option.bind_eq_some_iff.mp H
                    obtain ⟨t285, A160, H⟩ := H
                    replace H : (if x7_2.length < 70368744177664 then (impl_coinValues.l1 k2 a0 x5_1 x12_1 (x7_2 ++ [t285]) a1 x12_1 t281 (t281.length : Int) (wrap64 (x20_2 + 1))) else (none)) = some r := H
                    have A16 := Aside0.mk A160
                    clear A160
                    by_cases c17 : x7_2.length < 70368744177664
                    · rw [if_pos c17] at H
                      have LMc17 := Aside0.mk c17
                      clear c17
                      obtain ⟨y286, hy286⟩ : ∃ y_ : List Int, y_ = (x7_2 ++ [t285]) := ⟨_, rfl⟩
                      replace H : (impl_coinValues.l1 k2 a0 x5_1 x12_1 y286 a1 x12_1 t281 (t281.length : Int) (wrap64 (x20_2 + 1))) = some r := by first | (rw [hy286]; with_reducible exact H) | (have H2_ := (Option.bind_some _ _).symm.trans H; rw [hy286]; with_reducible exact H2_) | (have H2_ := (Option.bind_some _ _).symm.trans H; with_reducible exact H2_) | with_reducible exact H | (rw [hy286]; exact H) | exact H
                      have Ny286 := Aside0.mk hy286
                      clear hy286
                      have H' := Aside0.mk H
                      clear H
                      have p284 : 0 ≤ (x20_2 : Int) := of_decide_eq_true (by first | (with_reducible assumption) | assumption)
                      have q284 : x20_2 < (t281.length : Int) := of_decide_eq_true (by first | (with_reducible assumption) | assumption)
                      obtain ⟨ad284, e284, hx284_0⟩ := Kd.at_int (Kd.R_reads' HO_18.out).2.2 x20_2 p284 q284
                      cases e284
                      replace p284 := eq_true p284
                      replace q284 := eq_true q284
                      obtain ⟨Ao18, co18, eo18⟩ := Kd.R_slice HO_5.out
                      subst eo18
                      go_wp2_with (first | ((with_reducible refine gate_callee (f := 32) rfl ?_); refine goesL_ (some 30) rfl rfl Tryd.func32 (by kernel_rfl) rfl #[.slice Ao18 x5_1.length co18, .int .u32 (Go.bits .andNot .u32 (rd t281 x20_2) (ji15))] rfl (by (try simp only [List.map_toArray, List.map_cons, List.map_nil]); first | done | (simp only [hji15]; rfl) | rfl | (simp only [List.length_drop, List.length_take]; rfl)) ?_; (with_reducible refine (impl_rowOf.calls k2 _ _ x5_1 (Go.bits .andNot .u32 (rd t281 x20_2) (ji15)) t285 _ ?side1 ?side2 (by repeat (first | exact HLaid32_.out | exact Laid32.below HLaid32_.out HB.out | exact Laid32.below HLaid32_.out (Drawn0.below ⟨⟨_, rfl⟩⟩) | apply Laid32.drew)) A16.out).mono ?_); (case side1 => repeat (first | exact (Kd.R_reads' HO_5.out).2.2 | (with_reducible refine Kd.C_alloc ?_ _) | (with_reducible refine Kd.C_drewN ?_ _) | (with_reducible refine Kd.C_drew ?_))); (case side2 => exact (Kd.R_reads' HO_5.out).2.1); rintro e w' ⟨rfl, ⟨nd, rfl⟩⟩; refine ⟨_, rfl, ?_⟩) | ((with_reducible refine gate_builtin (b := .append) (xs := #[.tmp 24, .tmp 31]) rfl ?_); at_builtin; refine Kd.R_append (Kd.int .u16) (w0 := w) w.heap.size rfl (.tmp 24) (.tmp 31) 28 35 (.int .u16 0) 2 rfl Tryd.underlying28 info35 rfl (by decide) (by omega) u7 x7_2 t285 [.int .u16 t285] (fun k_ => some k_ ≠ (.slice Ao18 x5_1.length co18 : Value).ownBlock) (fun _ => False) rfl rfl ?aP (fun _ hk => hk.elim) ?aF ?aO ?aB ?aS ?aL ?_; (case aP => exact rfl); (case aB => exact (by repeat (first | (with_reducible first | exact HB.out | apply below_alloc | apply pw_below_drewN | apply below_drew1) | exact HB.out))); (case aF => exact (fun k_ hk => Kd.fresh' (Kd.R_lt (by (with_reducible repeat (first | apply Kd.R_alloc | apply Kd.R_drewN | apply Kd.R_drew)); exact HO_5.out)) k_ hk)); (case aO => exact (by (with_reducible repeat (first | apply Kd.R_alloc | apply Kd.R_drewN | apply Kd.R_drew)); exact HO_7.out)); (case aS => exact (below_size (by repeat (first | (with_reducible first | exact HB.out | apply below_alloc | apply pw_below_drewN | apply below_drew1) | exact HB.out)))); (case aL => have := LMc17.out; omega); intro v287 w19 ho hb hg hat; rw [← Ny286.out] at ho; have n0_ := Aside0.mk (Kd.R_after (ok := (fun _ => True)) (by (with_reducible repeat (first | apply Kd.R_alloc | apply Kd.R_drewN | apply Kd.R_drew)); exact Kd.R_mono HO_5.out (fun _ hk => ⟨trivial, hk⟩)) hg hat); have n1_ := Aside0.mk (Kd.R_over' (by (with_reducible repeat (first | apply Kd.R_alloc | apply Kd.R_drewN | apply Kd.R_drew)); exact HO_18.out) (Kd.R_typed (by (with_reducible repeat (first | apply Kd.R_alloc | apply Kd.R_drewN | apply Kd.R_drew)); exact HO_7.out)) (by decide) hg); have n2_ := Aside0.mk (hb); have n3_ := Aside0.mk (ho); clear HO_5; clear HO_18; clear HB; clear HO_7; have HO_5 := n0_; have HO_18 := n1_; have HB := n2_; have HO288 := n3_; clear n0_ n1_ n2_ n3_; clear ho hb hg hat))
                      go_roundg k2
                      case measure => have := HK1.out; have := HK2.out; omega
                      case rel => exact ⟨(y286), (wrap64 (x20_2 + 1)), (by first | rfl | (simp; done) | (simp [*]; done)), H', ⟨by have := HK1.out; have := HK2.out; omega⟩, ⟨by (with_reducible repeat (first | apply Kd.R_alloc | apply Kd.R_drewN | apply Kd.R_drew)); exact Kd.R_mono HO_5.out (fun _ hk => hk.2)⟩, ⟨by (with_reducible repeat (first | apply Kd.R_alloc | apply Kd.R_drewN | apply Kd.R_drew)); exact HO288.out⟩, ⟨by (with_reducible repeat (first | apply Kd.R_alloc | apply Kd.R_drewN | apply Kd.R_drew)); exact HO_18.out⟩, ⟨by repeat (first | (with_reducible first | exact HB.out | apply below_alloc | apply pw_below_drewN | apply below_drew1) | exact HB.out)⟩⟩
                    · rw [if_neg c17] at H
                      exact absurd H (by simp)
                  · rw [if_neg c14] at H
                    exact absurd H (by simp)
                · rw [if_neg c13] at H
                  exact absurd H (by simp)
              · rw [if_neg c12] at H
                exact absurd H (by simp)
            · rw [if_neg c11] at H
              have c11b0 : decide (x20_2 < (t281.length : Int)) = false := decide_eq_false c11
              clear c11
              replace H := Option.bind_eq_some_iff.mp H
              obtain ⟨t289, A200, H⟩ := H
              replace H : (if x5_1.length < 70368744177664 then (impl_coinValues.l0 k2 a0 (x5_1 ++ [IntKind.u16.wrap (t289)]) a1 (wrap64 (x12_1 + 1))) else (none)) = some r := H
              have A20 := Aside0.mk A200
              clear A200
              by_cases c21 : x5_1.length < 70368744177664
              · rw [if_pos c21] at H
                have LMc21 := Aside0.mk c21
                clear c21
                obtain ⟨y290, hy290⟩ : ∃ y_ : List Int, y_ = (x5_1 ++ [IntKind.u16.wrap (t289)]) := ⟨_, rfl⟩
                replace H : (impl_coinValues.l0 k2 a0 y290 a1 (wrap64 (x12_1 + 1))) = some r := by first | (rw [hy290]; with_reducible exact H) | (have H2_ := (Option.bind_some _ _).symm.trans H; rw [hy290]; with_reducible exact H2_) | (have H2_ := (Option.bind_some _ _).symm.trans H; with_reducible exact H2_) | with_reducible exact H | (rw [hy290]; exact H) | exact H
                have Ny290 := Aside0.mk hy290
                clear hy290
                have H' := Aside0.mk H
                clear H
                obtain ⟨Ao22, co22, eo22⟩ := Kd.R_slice HO_7.out
                subst eo22
                go_wp2_with (first | ((with_reducible refine gate_callee (f := 40) rfl ?_); refine goesL_ (some 36) rfl rfl Tryd.func40 (by kernel_rfl) rfl #[.slice Ao22 x7_2.length co22] rfl (by (try simp only [List.map_toArray, List.map_cons, List.map_nil]); first | done | rfl | (simp only [List.length_drop, List.length_take]; rfl)) ?_; (with_reducible refine (impl_mex.calls k2 _ _ x7_2 t289 _ ?side1 ?side2 A20.out).mono ?_); (case side1 => repeat (first | exact (Kd.R_reads' HO_7.out).2.2 | (with_reducible refine Kd.C_alloc ?_ _) | (with_reducible refine Kd.C_drewN ?_ _) | (with_reducible refine Kd.C_drew ?_))); (case side2 => exact (Kd.R_reads' HO_7.out).2.1); rintro e w23 ⟨rfl, hb⟩; refine ⟨_, rfl, ?_⟩; have n0_ := Aside0.mk (Kd.R_below (by (with_reducible repeat (first | apply Kd.R_alloc | apply Kd.R_drewN | apply Kd.R_drew)); exact HO_5.out) hb); have n1_ := Aside0.mk (Kd.R_below (by (with_reducible repeat (first | apply Kd.R_alloc | apply Kd.R_drewN | apply Kd.R_drew)); exact HO_7.out) hb); have n2_ := Aside0.mk (Kd.R_below (by (with_reducible repeat (first | apply Kd.R_alloc | apply Kd.R_drewN | apply Kd.R_drew)); exact HO_18.out) hb); have n3_ := Aside0.mk (below_step (by repeat (first | (with_reducible first | exact HB.out | apply below_alloc | apply pw_below_drewN | apply below_drew1) | exact HB.out)) hb); clear HO_5; clear HO_7; clear HO_18; clear HB; have HO_5 := n0_; have HO_7 := n1_; have HO_18 := n2_; have HB := n3_; clear n0_ n1_ n2_ n3_; (try clear hb); (try clear hb2); (try clear hk); (try clear hi)) | ((with_reducible refine gate_builtin (b := .append) (xs := #[.tmp 34, .tmp 38]) rfl ?_); at_builtin; refine Kd.R_append (Kd.int .u16) (w0 := w) w.heap.size rfl (.tmp 34) (.tmp 38) 28 35 (.int .u16 0) 2 rfl Tryd.underlying28 info35 rfl (by decide) (by omega) u5 x5_1 (IntKind.u16.wrap (t289)) [.int .u16 (IntKind.u16.wrap (t289))] (fun k_ => some k_ ≠ (.slice Ao22 x7_2.length co22 : Value).ownBlock) (fun _ => False) rfl rfl ?aP (fun _ hk => hk.elim) ?aF ?aO ?aB ?aS ?aL ?_; (case aP => exact rfl); (case aB => exact (by repeat (first | (with_reducible first | exact HB.out | apply below_alloc | apply pw_below_drewN | apply below_drew1) | exact HB.out))); (case aF => exact (fun k_ hk => Kd.fresh' (Kd.R_lt (by (with_reducible repeat (first | apply Kd.R_alloc | apply Kd.R_drewN | apply Kd.R_drew)); exact HO_7.out)) k_ hk)); (case aO => exact (by (with_reducible repeat (first | apply Kd.R_alloc | apply Kd.R_drewN | apply Kd.R_drew)); exact HO_5.out)); (case aS => exact (below_size (by repeat (first | (with_reducible first | exact HB.out | apply below_alloc | apply pw_below_drewN | apply below_drew1) | exact HB.out)))); (case aL => have := LMc21.out; omega); intro v291 w24 ho hb hg hat; rw [← Ny290.out] at ho; have n0_ := Aside0.mk (Kd.R_after (ok := (fun _ => True)) (by (with_reducible repeat (first | apply Kd.R_alloc | apply Kd.R_drewN | apply Kd.R_drew)); exact Kd.R_mono HO_7.out (fun _ hk => ⟨trivial, hk⟩)) hg hat); have n1_ := Aside0.mk (Kd.R_over' (by (with_reducible repeat (first | apply Kd.R_alloc | apply Kd.R_drewN | apply Kd.R_drew)); exact HO_18.out) (Kd.R_typed (by (with_reducible repeat (first | apply Kd.R_alloc | apply Kd.R_drewN | apply Kd.R_drew)); exact HO_5.out)) (by decide) hg); have n2_ := Aside0.mk (hb); have n3_ := Aside0.mk (ho); clear HO_7; clear HO_18; clear HB; clear HO_5; have HO_7 := n0_; have HO_18 := n1_; have HB := n2_; have HO292 := n3_; clear n0_ n1_ n2_ n3_; clear ho hb hg hat))
                go_roundg k2
                case measure => have := HK1.out; have := HK2.out; omega
                case rel => exact ⟨(y290), (wrap64 (x12_1 + 1)), (by first | rfl | (simp; done) | (simp [*]; done)), H', ⟨by have := HK1.out; have := HK2.out; omega⟩, ⟨by (with_reducible repeat (first | apply Kd.R_alloc | apply Kd.R_drewN | apply Kd.R_drew)); exact Kd.R_mono HO292.out (fun _ hk => trivial)⟩, ⟨by repeat (first | (with_reducible first | exact HB.out | apply below_alloc | apply pw_below_drewN | apply below_drew1) | exact HB.out)⟩⟩
              · rw [if_neg c21] at H
                exact absurd H (by simp)
      · rw [if_neg c5] at H
        have c5b0 : decide (x12_1 < a1) = false := decide_eq_false c5
        clear c5
        obtain rfl := Option.some.inj H
        go_wp2
        go_ret
        exact ⟨_, by first | rfl | (simp [errW_none, errW_some] <;> rfl) | (simp [*, errW_none, errW_some] <;> rfl), by (with_reducible repeat (first | apply Kd.R_alloc | apply Kd.R_drewN | apply Kd.R_drew)); exact HO_5.out, by repeat (first | (with_reducible first | exact HB.out | apply below_alloc | apply pw_below_drewN | apply below_drew1) | exact HB.out)⟩

/-! ### impl_within: function 25 -/
def impl_within.f (a0 : Int) (a1 : Int) (a2 : Int) : Option (Bool) := if a1 ≤ a0 then (some (decide (a0 ≤ a2))) else (some false)
set_option maxHeartbeats 8000000 in
set_option maxRecDepth 100000 in
theorem impl_within.calls (a0 : Int) (a1 : Int) (a2 : Int) (r : Bool) (w : World) (h : impl_within.f a0 a1 a2 = some r) :
    Calls Tryd.prog 25 #[.int .i64 a0, .int .i64 a1, .int .i64 a2] w fun e w' => e = .returned (.bool r) ∧ Drawn0 w w' := by
  have H : (if a1 ≤ a0 then (some (decide (a0 ≤ a2))) else (some false)) = some r := h
  clear h
  by_cases c4 : a1 ≤ a0
  · rw [if_pos c4] at H
    have c4b0 : decide (a1 ≤ a0) = true := decide_eq_true c4
    clear c4
    obtain rfl := Option.some.inj H
    go_enter Tryd.func25, Tryd.ntmps25
    go_wp2
    go_ret
    exact ⟨by first | rfl | (simp; done) | (simp [*]; done), by repeat (first | exact Drawn0.refl _ | apply Drawn0.step)⟩
  · rw [if_neg c4] at H
    have c4b0 : decide (a1 ≤ a0) = false := decide_eq_false c4
    clear c4
    obtain rfl := Option.some.inj H
    go_enter Tryd.func25, Tryd.ntmps25
    go_wp2
    go_ret
    exact ⟨by first | rfl | (simp; done) | (simp [*]; done), by repeat (first | exact Drawn0.refl _ | apply Drawn0.step)⟩

/-! ### impl_isRule: function 24 -/
def impl_isRule.f (a0 : Int) : Option (Bool) := (impl_within.f a0 0 5).bind fun t293 => (some t293)
set_option maxHeartbeats 8000000 in
set_option maxRecDepth 100000 in
theorem impl_isRule.calls (a0 : Int) (r : Bool) (w : World) (h : impl_isRule.f a0 = some r) :
    Calls Tryd.prog 24 #[.int .i64 a0] w fun e w' => e = .returned (.bool r) ∧ Drawn0 w w' := by
  have H : ((impl_within.f a0 0 5).bind fun t293 => (some t293)) = some r := h
  clear h
  replace H := Option.bind_eq_some_iff.mp H
  obtain ⟨t293, A20, H⟩ := H
  replace H : (some t293) = some r := H
  have A2 := Aside0.mk A20
  clear A20
  obtain rfl := Option.some.inj H
  go_enter Tryd.func24, Tryd.ntmps24
  go_wp2_with (first | ((with_reducible refine gate_callee (f := 25) rfl ?_); refine goesL_ (some 4) rfl rfl Tryd.func25 (by kernel_rfl) rfl #[.int .i64 a0, .int .i64 0, .int .i64 5] rfl (by (try simp only [List.map_toArray, List.map_cons, List.map_nil]); first | done | rfl | (simp only [List.length_drop, List.length_take]; rfl)) ?_; (with_reducible refine (impl_within.calls a0 0 5 t293 _ A2.out).mono ?_); rintro e w' ⟨rfl, ⟨nd, rfl⟩⟩; refine ⟨_, rfl, ?_⟩))
  go_ret
  exact ⟨by first | rfl | (simp; done) | (simp [*]; done), by repeat (first | exact Drawn0.refl _ | apply Drawn0.step)⟩

/-! ### impl_rowRule: function 31 -/
def impl_rowRule.f (a0 : Int) (a1 : Int) : Option (Int) := (impl_isRule.f a0).bind fun t294 => (if t294 = true then (if (a1 / 16777216) = 0 then (some 0) else (some 3)) else (some 2))
set_option maxHeartbeats 8000000 in
set_option maxRecDepth 100000 in
theorem impl_rowRule.calls (a0 : Int) (a1 : Int) (r : Int) (w : World) (h : impl_rowRule.f a0 a1 = some r) :
    Calls Tryd.prog 31 #[.int .i64 a0, .int .u32 a1] w fun e w' => e = .returned (.int .i64 r) ∧ Drawn0 w w' := by
  have H : ((impl_isRule.f a0).bind fun t294 => (if t294 = true then (if (a1 / 16777216) = 0 then (some 0) else (some 3)) else (some 2))) = some r := h
  clear h
  replace H := Option.bind_eq_some_iff.mp H
  obtain ⟨t294, A30, H⟩ := H
  replace H : (if t294 = true then (if (a1 / 16777216) = 0 then (some 0) else (some 3)) else (some 2)) = some r := H
  have A3 := Aside0.mk A30
  clear A30
  by_cases c4 : t294 = true
  · subst c4
    have H1 : (if (a1 / 16777216) = 0 then (some 0) else (some 3)) = some r := by rw [if_pos rfl] at H; exact H
    clear H
    have H := H1
    clear H1
    by_cases c5 : (a1 / 16777216) = 0
    · rw [if_pos c5] at H
      have c5b0 : ((a1 / 16777216) == 0) = true := beq_iff_eq.mpr c5
      have c5b1 : ((a1 / 16777216) != 0) = false := bne_eq_false_iff_eq.mpr c5
      clear c5
      obtain rfl := Option.some.inj H
      go_enter Tryd.func31, Tryd.ntmps31
      go_wp2_with (first | ((with_reducible refine gate_callee (f := 24) rfl ?_); refine goesL_ (some 7) rfl rfl Tryd.func24 (by kernel_rfl) rfl #[.int .i64 a0] rfl (by (try simp only [List.map_toArray, List.map_cons, List.map_nil]); first | done | rfl | (simp only [List.length_drop, List.length_take]; rfl)) ?_; (with_reducible refine (impl_isRule.calls a0 true _ A3.out).mono ?_); rintro e w' ⟨rfl, ⟨nd, rfl⟩⟩; refine ⟨_, rfl, ?_⟩))
      go_ret
      exact ⟨by first | rfl | (simp; done) | (simp [*]; done), by repeat (first | exact Drawn0.refl _ | apply Drawn0.step)⟩
    · rw [if_neg c5] at H
      have c5b0 : ((a1 / 16777216) == 0) = false := beq_eq_false_iff_ne.mpr c5
      have c5b1 : ((a1 / 16777216) != 0) = true := bne_iff_ne.mpr c5
      obtain rfl := Option.some.inj H
      go_enter Tryd.func31, Tryd.ntmps31
      go_wp2_with (first | ((with_reducible refine gate_callee (f := 24) rfl ?_); refine goesL_ (some 7) rfl rfl Tryd.func24 (by kernel_rfl) rfl #[.int .i64 a0] rfl (by (try simp only [List.map_toArray, List.map_cons, List.map_nil]); first | done | rfl | (simp only [List.length_drop, List.length_take]; rfl)) ?_; (with_reducible refine (impl_isRule.calls a0 true _ A3.out).mono ?_); rintro e w' ⟨rfl, ⟨nd, rfl⟩⟩; refine ⟨_, rfl, ?_⟩))
      go_ret
      exact ⟨by first | rfl | (simp; done) | (simp [*]; done), by repeat (first | exact Drawn0.refl _ | apply Drawn0.step)⟩
  · replace c4 := Bool.eq_false_iff.mpr c4
    subst c4
    have H1 : (some 2) = some r := by rw [if_neg (show ¬ (false = true) by decide)] at H; exact H
    clear H
    have H := H1
    clear H1
    obtain rfl := Option.some.inj H
    go_enter Tryd.func31, Tryd.ntmps31
    go_wp2_with (first | ((with_reducible refine gate_callee (f := 24) rfl ?_); refine goesL_ (some 7) rfl rfl Tryd.func24 (by kernel_rfl) rfl #[.int .i64 a0] rfl (by (try simp only [List.map_toArray, List.map_cons, List.map_nil]); first | done | rfl | (simp only [List.length_drop, List.length_take]; rfl)) ?_; (with_reducible refine (impl_isRule.calls a0 false _ A3.out).mono ?_); rintro e w' ⟨rfl, ⟨nd, rfl⟩⟩; refine ⟨_, rfl, ?_⟩))
    go_ret
    exact ⟨by first | rfl | (simp; done) | (simp [*]; done), by repeat (first | exact Drawn0.refl _ | apply Drawn0.step)⟩

-- NOT PRINTED: function 50 (slices_IndexFunc_uint32_uint32)

-- NOT PRINTED: function 42 (slices_DeleteFunc_uint32_uint32)

/-! ### impl_allTurns: function 43 -/
def impl_allTurns.l0 : Nat → Int → Int → List Int → Int → Option (List Int)
  | 0, _, _, _, _ => none
  | k + 1, x0, x1, x5, x8 => if x8 < 24 then (if 0 ≤ x8 then (if (Go.bits .and .u32 (shr .u32 x1 x8) 1) = 1 then ((impl_turnsAt.f k x0 x8).bind fun t298 => (if x5.length + t298.length < 35184372088832 then (impl_allTurns.l0 k x0 x1 (x5 ++ t298) (wrap64 (x8 + 1))) else (none))) else (impl_allTurns.l0 k x0 x1 x5 (wrap64 (x8 + 1)))) else (none)) else (some x5)
def impl_allTurns.f (k : Nat) (a0 : Int) (a1 : Int) : Option (List Int) := impl_allTurns.l0 k a0 a1 (([] : List Int)) 0
theorem impl_allTurns.mono_l : ∀ k, (∀ y0 y1 y2 y3, LeO (impl_allTurns.l0 k y0 y1 y2 y3) (impl_allTurns.l0 (k + 1) y0 y1 y2 y3))
  | 0 => fun _ _ _ _ r h => by simp [impl_allTurns.l0] at h
  | k + 1 => by
    have ih0 := impl_allTurns.mono_l k
    · intro y0 y1 y2 y3
      unfold impl_allTurns.l0
      repeat' first
      | (with_reducible exact ih0 _ _ _ _)
      | (with_reducible exact impl_turnsAt.mono _ _ _)
      | (with_reducible exact LeO.refl _)
      | (with_reducible exact LeO.none _)
      | (with_reducible refine LeO.ite ?_ ?_)
      | (with_reducible refine LeO.bind ?_ (fun _ => ?_))
      | exact ih0 _ _ _ _
      | exact impl_turnsAt.mono _ _ _
      | exact LeO.none _
      | refine LeO.ite ?_ ?_
      | refine LeO.bind ?_ (fun _ => ?_)
theorem impl_allTurns.mono : ∀ a0 a1 k, LeO (impl_allTurns.f k a0 a1) (impl_allTurns.f (k + 1) a0 a1) := by
  intro a0 a1 k
  have ih0 := impl_allTurns.mono_l k
  unfold impl_allTurns.f
  repeat' first
      | (with_reducible exact ih0 _ _ _ _)
      | (with_reducible exact impl_turnsAt.mono _ _ _)
      | (with_reducible exact LeO.refl _)
      | (with_reducible exact LeO.none _)
      | (with_reducible refine LeO.ite ?_ ?_)
      | (with_reducible refine LeO.bind ?_ (fun _ => ?_))
      | exact ih0 _ _ _ _
      | exact impl_turnsAt.mono _ _ _
      | exact LeO.none _
      | refine LeO.ite ?_ ?_
      | refine LeO.bind ?_ (fun _ => ?_)
set_option maxHeartbeats 8000000 in
set_option maxRecDepth 100000 in
theorem impl_allTurns.calls (k : Nat) (a0 : Int) (a1 : Int) (r : List Int) (w : World) (hLaid32_ : Laid32 w) (h : impl_allTurns.f k a0 a1 = some r) :
    Calls Tryd.prog 43 #[.int .i64 a0, .int .u32 a1] w fun e w' => ∃ v0_ : Value, e = .returned (v0_) ∧ Kd.R (Kd.int .u32) 33 w' w.heap.size (fun _ => True) v0_ r ∧ Below w.heap.size w w' := by
  have HLaid32_ := Aside0.mk hLaid32_
  clear hLaid32_
  have HB := Aside0.mk (Below.refl w.heap.size w)
  have H : (impl_allTurns.l0 k a0 a1 (([] : List Int)) 0) = some r := h
  clear h
  obtain ⟨y295, hy295⟩ : ∃ y_ : List Int, y_ = (([] : List Int)) := ⟨_, rfl⟩
  replace H : (impl_allTurns.l0 k a0 a1 y295 0) = some r := by first | (rw [hy295]; with_reducible exact H) | (have H2_ := (Option.bind_some _ _).symm.trans H; rw [hy295]; with_reducible exact H2_) | (have H2_ := (Option.bind_some _ _).symm.trans H; with_reducible exact H2_) | with_reducible exact H | (rw [hy295]; exact H) | exact H
  have Ny295 := Aside0.mk hy295
  clear hy295
  have H' := Aside0.mk H
  clear H
  go_enter Tryd.func43, Tryd.ntmps43
  go_wp2_with (first | ((with_reducible refine gate_dst (N := 7) rfl ?_); refine Kd.R_lit (Kd.int .u32) _ 33 ?hg (N := 7) ?hd (xs := ([] : List Int)) (inner := []) (ok := fun _ => True) (okp := fun _ => True) ?hr ?hp (fun _ hk => hk) trivial (Below.refl _ _) (Nat.le_refl _) (by simp) ?_; (case hd => rfl); (case hg => rfl); (case hr => first | (go_simp; done) | (go_simp; rfl)); (case hp => exact (Reps.none _ _)); intro v296 w3 ho4 hb hg_ hnew_; clear hg_ hnew_; (first | rw [← Ny295.out] at ho4 | (simp only [Int.reduceToNat] at ho4; rw [← Ny295.out] at ho4)); have n0_ := Aside0.mk (Kd.R_lower ho4 (below_size (by repeat (first | (with_reducible first | exact HB.out | apply below_alloc | apply pw_below_drewN | apply below_drew1) | exact HB.out)))); have n1_ := Aside0.mk (below_step (by repeat (first | (with_reducible first | exact HB.out | apply below_alloc | apply pw_below_drewN | apply below_drew1) | exact HB.out)) hb); clear HB; have HO297 := n0_; have HB := n1_; clear n0_ n1_; clear hb ho4))
  go_loopg [5, 8] k (fun kq v5 v8 w' => ∃ (x5_1 : List Int) (x8_1 : Int), v8 = .int .i64 x8_1 ∧ Aside0 (impl_allTurns.l0 kq a0 a1 x5_1 x8_1 = some r) ∧ Aside0 (kq ≤ k) ∧ Aside0 (Kd.R (Kd.int .u32) 33 w' w.heap.size (fun _ => True) v5 x5_1) ∧ Aside0 (Below w.heap.size w w'))
  case atStart => exact ⟨(y295), (0), (by first | rfl | (simp; done) | (simp [*]; done)), H', ⟨Nat.le_refl _⟩, ⟨by (with_reducible repeat (first | apply Kd.R_alloc | apply Kd.R_drewN | apply Kd.R_drew)); exact HO297.out⟩, ⟨by repeat (first | (with_reducible first | exact HB.out | apply below_alloc | apply pw_below_drewN | apply below_drew1) | exact HB.out)⟩⟩
  case round =>
    clear H'
    try clear p2
    try clear c4
    obtain ⟨x5_1, x8_1, rfl, HA, HK1, HO_5, HB⟩ := hrel
    cases gk with
    | zero => exact absurd HA.out (by simp [impl_allTurns.l0])
    | succ k1 =>
      have H := HA.out
      clear HA
      simp only [impl_allTurns.l0] at H
      by_cases c5 : x8_1 < 24
      · rw [if_pos c5] at H
        have c5b0 : decide (x8_1 < 24) = true := decide_eq_true c5
        clear c5
        by_cases c6 : 0 ≤ x8_1
        · rw [if_pos c6] at H
          have c6b0 := eq_true c6
          have c6b1 : decide (0 ≤ x8_1) = true := decide_eq_true c6
          clear c6
          obtain ⟨ji7, hji7⟩ : ∃ j_ : Int, (shr .u32 a1 x8_1) = j_ := ⟨_, rfl⟩
          replace H : (if (Go.bits .and .u32 (ji7) 1) = 1 then ((impl_turnsAt.f k1 a0 x8_1).bind fun t298 => (if x5_1.length + t298.length < 35184372088832 then (impl_allTurns.l0 k1 a0 a1 (x5_1 ++ t298) (wrap64 (x8_1 + 1))) else (none))) else (impl_allTurns.l0 k1 a0 a1 x5_1 (wrap64 (x8_1 + 1)))) = some r := by first | (rw [hji7] at H; exact H) | (simp only [hji7] at H ⊢; exact H)
          have hji7_ : (a1 / 2 ^ min x8_1.toNat 32) = ji7 := hji7
          have hji7z : x8_1 ≤ 32 → (a1 / 2 ^ x8_1.toNat) = ji7 := shr_small hji7
          by_cases c8 : (Go.bits .and .u32 (ji7) 1) = 1
          · rw [if_pos c8] at H
            have c8b0 : ((Go.bits .and .u32 (ji7) 1) == 1) = true := beq_iff_eq.mpr c8
            have c8b1 : ((Go.bits .and .u32 (ji7) 1) != 1) = false := bne_eq_false_iff_eq.mpr c8
            clear c8
            replace H := Option.bind_eq_some_iff.mp H
            obtain ⟨t298, A90, H⟩ := H
            replace H : (if x5_1.length + t298.length < 35184372088832 then (impl_allTurns.l0 k1 a0 a1 (x5_1 ++ t298) (wrap64 (x8_1 + 1))) else (none)) = some r := H
            have A9 := Aside0.mk A90
            clear A90
            by_cases c10 : x5_1.length + t298.length < 35184372088832
            · rw [if_pos c10] at H
              have LMc10 := Aside0.mk c10
              clear c10
              obtain ⟨y301, hy301⟩ : ∃ y_ : List Int, y_ = (x5_1 ++ t298) := ⟨_, rfl⟩
              replace H : (impl_allTurns.l0 k1 a0 a1 y301 (wrap64 (x8_1 + 1))) = some r := by first | (rw [hy301]; with_reducible exact H) | (have H2_ := (Option.bind_some _ _).symm.trans H; rw [hy301]; with_reducible exact H2_) | (have H2_ := (Option.bind_some _ _).symm.trans H; with_reducible exact H2_) | with_reducible exact H | (rw [hy301]; exact H) | exact H
              have Ny301 := Aside0.mk hy301
              clear hy301
              have H' := Aside0.mk H
              clear H
              go_wp2_with (first | ((with_reducible refine gate_callee (f := 26) rfl ?_); refine goesL_ (some 19) rfl rfl Tryd.func26 (by kernel_rfl) rfl #[.int .i64 a0, .int .i64 x8_1] rfl (by (try simp only [List.map_toArray, List.map_cons, List.map_nil]); first | done | rfl | (simp only [List.length_drop, List.length_take]; rfl)) ?_; (with_reducible refine (impl_turnsAt.calls k1 a0 x8_1 t298 _ (by repeat (first | exact HLaid32_.out | exact Laid32.below HLaid32_.out HB.out | exact Laid32.below HLaid32_.out (Drawn0.below ⟨⟨_, rfl⟩⟩) | apply Laid32.drew)) A9.out).mono ?_); rintro e w11 ⟨v299, rfl, ho0, hb⟩; refine ⟨_, rfl, ?_⟩; have n0_ := Aside0.mk (Kd.R_elder' (by (with_reducible repeat (first | apply Kd.R_alloc | apply Kd.R_drewN | apply Kd.R_drew)); exact HO_5.out) (Kd.R_base ho0) hb); have n1_ := Aside0.mk (Kd.R_lower (Kd.R_new' ho0 (Kd.R_lt (by (with_reducible repeat (first | apply Kd.R_alloc | apply Kd.R_drewN | apply Kd.R_drew)); exact HO_5.out))) (below_size (by repeat (first | (with_reducible first | exact HB.out | apply below_alloc | apply pw_below_drewN | apply below_drew1) | exact HB.out)))); have n2_ := Aside0.mk (below_step (by repeat (first | (with_reducible first | exact HB.out | apply below_alloc | apply pw_below_drewN | apply below_drew1) | exact HB.out)) hb); clear HO_5; clear HB; have HO_5 := n0_; have HO300 := n1_; have HB := n2_; clear n0_ n1_ n2_; (try clear hb); (try clear hb2); (try clear hk); (try clear hi); (try clear ho0); obtain ⟨Ao13, co13, eo13⟩ := Kd.R_slice HO300.out; subst eo13) | ((with_reducible refine gate_builtin (b := .append) (xs := #[.tmp 16, .tmp 19]) rfl ?_); at_builtin; refine Kd.R_append_rows (Kd.int .u32) (w0 := w) w.heap.size rfl (.tmp 16) (.tmp 19) 22 33 (.int .u32 0) 4 rfl Tryd.underlying22 info33 rfl (by decide) (by omega) u5 x5_1 t298 _ _ _ (fun k_ => some k_ ≠ (.slice Ao13 t298.length co13 : Value).ownBlock) (fun _ => False) rfl rfl ?aO ?aR (fun _ _ h => h) (fun _ h => h.elim) ?aF ?aB ?aS ?aL ?_; (case aR => repeat (first | exact (Kd.R_reads' HO300.out).2.2 | (with_reducible refine Kd.C_alloc ?_ _) | (with_reducible refine Kd.C_drewN ?_ _) | (with_reducible refine Kd.C_drew ?_))); (case aB => exact (by repeat (first | (with_reducible first | exact HB.out | apply below_alloc | apply pw_below_drewN | apply below_drew1) | exact HB.out))); (case aF => exact (fun k_ hk => Kd.fresh' (Kd.R_lt (by (with_reducible repeat (first | apply Kd.R_alloc | apply Kd.R_drewN | apply Kd.R_drew)); exact HO300.out)) k_ hk)); (case aO => exact (by (with_reducible repeat (first | apply Kd.R_alloc | apply Kd.R_drewN | apply Kd.R_drew)); exact Kd.R_mono HO_5.out (fun _ hk => hk.2))); (case aS => exact (below_size (by repeat (first | (with_reducible first | exact HB.out | apply below_alloc | apply pw_below_drewN | apply below_drew1) | exact HB.out)))); (case aL => have := LMc10.out; omega); intro v302 w12 ho hb hg hat; rw [← Ny301.out] at ho; have n0_ := Aside0.mk (Kd.R_after (ok := (fun _ => True)) (by (with_reducible repeat (first | apply Kd.R_alloc | apply Kd.R_drewN | apply Kd.R_drew)); exact HO300.out) hg hat); have n1_ := Aside0.mk (hb); have n2_ := Aside0.mk (ho); clear HO300; clear HB; clear HO_5; have HO300 := n0_; have HB := n1_; have HO303 := n2_; clear n0_ n1_ n2_; clear ho hb hg hat))
              go_roundg k1
              case measure => have := HK1.out; omega
              case rel => exact ⟨(y301), (wrap64 (x8_1 + 1)), (by first | rfl | (simp; done) | (simp [*]; done)), H', ⟨by have := HK1.out; omega⟩, ⟨by (with_reducible repeat (first | apply Kd.R_alloc | apply Kd.R_drewN | apply Kd.R_drew)); exact Kd.R_mono HO303.out (fun _ hk => trivial)⟩, ⟨by repeat (first | (with_reducible first | exact HB.out | apply below_alloc | apply pw_below_drewN | apply below_drew1) | exact HB.out)⟩⟩
            · rw [if_neg c10] at H
              exact absurd H (by simp)
          · rw [if_neg c8] at H
            have c8b0 : ((Go.bits .and .u32 (ji7) 1) == 1) = false := beq_eq_false_iff_ne.mpr c8
            have c8b1 : ((Go.bits .and .u32 (ji7) 1) != 1) = true := bne_iff_ne.mpr c8
            have H' := Aside0.mk H
            clear H
            go_wp2
            go_roundg k1
            case measure => have := HK1.out; omega
            case rel => exact ⟨(x5_1), (wrap64 (x8_1 + 1)), (by first | rfl | (simp; done) | (simp [*]; done)), H', ⟨by have := HK1.out; omega⟩, ⟨by (with_reducible repeat (first | apply Kd.R_alloc | apply Kd.R_drewN | apply Kd.R_drew)); exact HO_5.out⟩, ⟨by repeat (first | (with_reducible first | exact HB.out | apply below_alloc | apply pw_below_drewN | apply below_drew1) | exact HB.out)⟩⟩
        · rw [if_neg c6] at H
          exact absurd H (by simp)
      · rw [if_neg c5] at H
        have c5b0 : decide (x8_1 < 24) = false := decide_eq_false c5
        clear c5
        obtain rfl := Option.some.inj H
        go_wp2
        go_ret
        exact ⟨_, by first | rfl | (simp [errW_none, errW_some] <;> rfl) | (simp [*, errW_none, errW_some] <;> rfl), by (with_reducible repeat (first | apply Kd.R_alloc | apply Kd.R_drewN | apply Kd.R_drew)); exact HO_5.out, by repeat (first | (with_reducible first | exact HB.out | apply below_alloc | apply pw_below_drewN | apply below_drew1) | exact HB.out)⟩

-- NOT PRINTED: function 34 (impl_winning)

/-! ### impl_CountWinningTurns: function 20 -/
/-- How many turns have the row's value; where each of their values is told. -/
def impl_CountWinningTurns.cnt (k : Nat) (V : List Int) (s : Int) (T : List Int) : Option (Int × Int) :=
  if ((0 :: T).all fun t => (impl_rowOf.f k V t).isSome) = true ∧ T.length ≤ 100000 then some (((T.filter fun t => decide (impl_rowOf.f k V t = some s)).length : Int), 0) else none
def impl_CountWinningTurns.f (k : Nat) (a0 : Int) (a1 : Int) : Option (Int × Int) :=
  (impl_rowRule.f a0 a1).bind fun c => if c = 0 then ((impl_coinValues.f k a0 24).bind fun V => (impl_rowOf.f k V a1).bind fun s => (impl_allTurns.f k a0 a1).bind fun T => impl_CountWinningTurns.cnt k V s T) else some (0, c)
theorem impl_CountWinningTurns.some_up {k : Nat} {V : List Int} {t : Int} (h : (impl_rowOf.f k V t).isSome = true) : impl_rowOf.f (k + 1) V t = impl_rowOf.f k V t := by
  obtain ⟨x, hx⟩ := Option.isSome_iff_exists.1 h
  rw [hx]
  exact impl_rowOf.mono _ _ _ _ hx
theorem impl_CountWinningTurns.cnt_mono (k : Nat) (V : List Int) (s : Int) (T : List Int) : LeO (impl_CountWinningTurns.cnt k V s T) (impl_CountWinningTurns.cnt (k + 1) V s T) := by
  intro r hr
  unfold impl_CountWinningTurns.cnt at *
  by_cases h : ((0 :: T).all fun t => (impl_rowOf.f k V t).isSome) = true ∧ T.length ≤ 100000
  · rw [if_pos h] at hr
    have hs := List.all_eq_true.1 h.1
    have h' : ((0 :: T).all fun t => (impl_rowOf.f (k + 1) V t).isSome) = true := List.all_eq_true.2 (fun t ht => by rw [impl_CountWinningTurns.some_up (hs t ht)]; exact hs t ht)
    have e : (T.filter fun t => decide (impl_rowOf.f (k + 1) V t = some s)) = T.filter fun t => decide (impl_rowOf.f k V t = some s) := List.filter_congr (fun t ht => by rw [impl_CountWinningTurns.some_up (hs t (List.mem_cons_of_mem _ ht))])
    rw [if_pos ⟨h', h.2⟩, e]
    exact hr
  · rw [if_neg h] at hr
    cases hr
theorem impl_CountWinningTurns.mono : ∀ a0 a1 k, LeO (impl_CountWinningTurns.f k a0 a1) (impl_CountWinningTurns.f (k + 1) a0 a1) := by
  intro a0 a1 k
  unfold impl_CountWinningTurns.f
  refine LeO.bind (LeO.refl _) (fun c => ?_)
  by_cases h : c = 0
  · rw [if_pos h, if_pos h]
    exact LeO.bind (impl_coinValues.mono _ _ _) (fun V => LeO.bind (impl_rowOf.mono _ _ _) (fun s => LeO.bind (impl_allTurns.mono _ _ _) (fun T => impl_CountWinningTurns.cnt_mono _ _ _ _)))
  · rw [if_neg h, if_neg h]
    exact LeO.refl _
/-- Turns that are handed to the predicate, and 0. -/
abbrev impl_CountWinningTurns.Al (T : List Int) : Type := {t : Int // t = 0 ∨ t ∈ T}
instance (T : List Int) : Inhabited (impl_CountWinningTurns.Al T) := ⟨⟨0, .inl rfl⟩⟩
def impl_CountWinningTurns.enc (T : List Int) (t : impl_CountWinningTurns.Al T) : Value := .int .u32 t.1
def impl_CountWinningTurns.val (k : Nat) (V : List Int) (t : Int) : Int := (impl_rowOf.f k V t).getD 0
theorem impl_CountWinningTurns.val_ok {k : Nat} {V T : List Int} (h : ((0 :: T).all fun t => (impl_rowOf.f k V t).isSome) = true) (t : impl_CountWinningTurns.Al T) : impl_rowOf.f k V t.1 = some (impl_CountWinningTurns.val k V t.1) := by
  have hs := List.all_eq_true.1 h t.1 (by
    rcases t.2 with e | e
    · rw [e]; exact List.mem_cons_self ..
    · exact List.mem_cons_of_mem _ e)
  obtain ⟨x, hx⟩ := Option.isSome_iff_exists.1 hs
  unfold impl_CountWinningTurns.val
  rw [hx]
  rfl
/-- What the boxes hold, and what the values are, in a world. -/
structure impl_CountWinningTurns.St (W : World) (vb sb : Nat) (A : Option Addr) (cv : Nat) (V : List Int) (s : Int) : Prop where
  hv : W.heap[vb]? = some (.cells #[.slice A V.length cv] 28)
  hs : W.heap[sb]? = some (.cells #[.int .u16 s] 35)
  hC : Kd.C (Kd.int .u16) W A V.length V
  hL : Laid32 W
theorem impl_CountWinningTurns.St.below {w W : World} {vb sb : Nat} {A : Option Addr} {cv : Nat} {V : List Int} {s : Int} (h : impl_CountWinningTurns.St w vb sb A cv V s) (hb : Below w.heap.size w W) : impl_CountWinningTurns.St W vb sb A cv V s :=
  ⟨(hb.block vb (lt_of_block h.hv)).trans h.hv, (hb.block sb (lt_of_block h.hs)).trans h.hs, Kd.C_below h.hC hb, h.hL.below hb⟩
set_option maxHeartbeats 800000 in
set_option maxRecDepth 100000 in
theorem impl_CountWinningTurns.gives (k : Nat) (V : List Int) (A : Option Addr) (cv : Nat) (s : Int) (vb sb : Nat) (W : World) (hS : impl_CountWinningTurns.St W vb sb A cv V s) (hcv : V.length ≤ cv) (t r : Int) (h : impl_rowOf.f k V t = some r) :
    FnGives Tryd.prog 44 #[.pointer (some ⟨vb, 0, none⟩), .pointer (some ⟨sb, 0, none⟩)] #[.int .u32 t] (.bool (r != s)) W := by
  show Calls Tryd.prog 44 #[.int .u32 t, .pointer (some ⟨vb, 0, none⟩), .pointer (some ⟨sb, 0, none⟩)] W _
  have cb := cell_of_one hS.hv
  have cs := cell_of_one hS.hs
  have C := Aside0.mk (fun n => impl_rowOf.calls k A cv V t r (W.drewN n) (Kd.C_drewN hS.hC n) hcv (hS.hL.drew n) h)
  have C0 := Aside0.mk (impl_rowOf.calls k A cv V t r W hS.hC hcv hS.hL h)
  clear hS h
  go_enter Tryd.func44, Tryd.ntmps44
  go_wp2_with fail
  go_quiet (first | (go_at_call 32; (first | (with_reducible refine (C.out _).mono ?_) | (with_reducible refine (C0.out).mono ?_)); rintro e w' ⟨rfl, ⟨nd, rfl⟩⟩; (first | exact ⟨rfl, _, World.drewN_drewN _ _ _⟩ | exact ⟨rfl, _, Eq.trans (World.drewN_drewN _ _ _) (congrArg (World.drewN _) (Nat.add_assoc _ _ _))⟩ | exact ⟨rfl, _, rfl⟩)))
  go_wp2_with fail
  go_ret
  exact ⟨rfl, _, rfl⟩
theorem impl_CountWinningTurns.put_below {α : Type} [Inhabited α] {a W : World} (enc : α → Value) (blk n : Nat) (dk : Array α) (os : Array Obj) (h : Below a.heap.size a W) (hb : a.heap.size ≤ blk) : Below a.heap.size a (Go.Sort.grow (Go.Sort.putRow enc (Go.Sort.ahead W n) blk 0 dk) os) := by
  refine ⟨h.os, h.tape, h.output, ?_, fun j hj => ?_⟩
  · have := h.size
    show a.heap.size ≤ ((W.heap.modify blk _) ++ os).size
    rw [Array.size_append, Array.size_modify]
    omega
  · have hs := h.size
    rw [← h.block j hj]
    show ((W.heap.modify blk _) ++ os)[j]? = W.heap[j]?
    rw [Array.getElem?_append_left (by rw [Array.size_modify]; omega), Array.getElem?_modify]
    rw [if_neg (by omega)]
theorem impl_CountWinningTurns.filt (T : List Int) (q : Int → Bool) : (((T.attach.map fun t => (⟨t.1, .inr t.2⟩ : impl_CountWinningTurns.Al T)).filter fun x => q x.1).length) = (T.filter q).length := by
  rw [List.filter_map, List.length_map, ← List.countP_eq_length_filter, ← List.countP_eq_length_filter]
  exact List.countP_attach (p := q)
def impl_CountWinningTurns.arr (T : List Int) : Array (impl_CountWinningTurns.Al T) := (T.attach.map fun t => (⟨t.1, .inr t.2⟩ : impl_CountWinningTurns.Al T)).toArray
theorem impl_CountWinningTurns.arr_size (T : List Int) : (impl_CountWinningTurns.arr T).size = T.length := by simp [impl_CountWinningTurns.arr]
theorem impl_CountWinningTurns.arr_at (T : List Int) (j : Nat) (h : j < T.length) : ((impl_CountWinningTurns.arr T)[j]!).1 = rd T (j : Int) := by
  have h2 : j < (impl_CountWinningTurns.arr T).size := by rw [impl_CountWinningTurns.arr_size]; exact h
  rw [getElem!_pos _ j h2]
  have : rd T (j : Int) = T[j] := by simp [rd, List.getD_eq_getElem?_getD, List.getElem?_eq_getElem h]
  rw [this]
  simp [impl_CountWinningTurns.arr]
set_option maxHeartbeats 800000 in
set_option maxRecDepth 100000 in
/-- slices.DeleteFunc at the turns, by the shelf: how many stay. -/
theorem impl_CountWinningTurns.del (k : Nat) (V T : List Int) (A : Option Addr) (cv : Nat) (s : Int) (vb sb : Nat) (w2 w3 : World) (hS : impl_CountWinningTurns.St w2 vb sb A cv V s) (hcv : V.length ≤ cv) (hall : ((0 :: T).all fun t => (impl_rowOf.f k V t).isSome) = true) (A1 : Option Addr) (c1 : Nat)
    (hR : Kd.R (Kd.int .u32) 33 w3 w2.heap.size (fun _ => True) (.slice A1 T.length c1) T) (hB : Below w2.heap.size w2 w3) (hp : 0 < T.length) (hT : T.length ≤ 100000) :
    Calls Tryd.prog 42 #[.slice A1 T.length c1, .func (.func 44) #[] #[.pointer (some ⟨vb, 0, none⟩), .pointer (some ⟨sb, 0, none⟩)]] w3 fun e w' => (∃ c, e = .returned (.slice A1 (T.filter fun t => decide (impl_rowOf.f k V t = some s)).length c)) ∧ Below w2.heap.size w2 w' := by
  have hm := Kd.R_reads' hR
  obtain ⟨g, c, he, hg1, hg2, cs, hcs⟩ := Kd.R_form hR hp
  injection he with h1 h2 h3
  subst h1 h3
  have hcell : ∀ j, j < T.length → w3.cell? ⟨g, j, none⟩ = some (.int .u32 (rd T (j : Int))) := by
    intro j hj
    obtain ⟨ad, e1, e2⟩ := Kd.at_int hm.2.2 (j : Int) (by omega) (by omega)
    injection e1 with e1
    subst e1
    simp only [add_plain, Int.toNat_natCast] at e2
    exact e2
  have hH : Go.Sort.Holds (impl_CountWinningTurns.enc T) w3 g 0 (impl_CountWinningTurns.arr T) := by
    intro j hj
    rw [impl_CountWinningTurns.arr_size] at hj
    refine ⟨?_, by simp [World.frozen?, hcs]⟩
    rw [Nat.zero_add, hcell j hj]
    unfold impl_CountWinningTurns.enc
    rw [impl_CountWinningTurns.arr_at T j hj]
  have eg : ∀ args w, (callFunc 44 args).run Tryd.prog w = .ok (.enter 44 args) w := enters_of Tryd.func44 (by kernel_rfl) rfl
  have hgive : ∀ (W : World), Below w2.heap.size w2 W → ∀ x : impl_CountWinningTurns.Al T, FnGives Tryd.prog 44 #[.pointer (some ⟨vb, 0, none⟩), .pointer (some ⟨sb, 0, none⟩)] #[impl_CountWinningTurns.enc T x] (.bool (impl_CountWinningTurns.val k V x.1 != s)) W :=
    fun W hb x => impl_CountWinningTurns.gives k V A cv s vb sb W (hS.below hb) hcv x.1 _ (impl_CountWinningTurns.val_ok hall x)
  have hcon := AnyE.slices_DeleteFunc Tryd.laysDf (impl_CountWinningTurns.enc T) (fun _ => rfl) (fun x => impl_CountWinningTurns.val k V x.1 != s) 44 #[.pointer (some ⟨vb, 0, none⟩), .pointer (some ⟨sb, 0, none⟩)] eg default Tryd.zeroValue33 g 0 c1 (impl_CountWinningTurns.arr T) w3
    (fun W x hb => hgive W (below_step hB hb) x)
    (fun n os dk x _ => hgive _ (impl_CountWinningTurns.put_below (impl_CountWinningTurns.enc T) g n dk os hB hg1) x)
    hH (by rw [impl_CountWinningTurns.arr_size]; omega) (by rw [impl_CountWinningTurns.arr_size]; exact hm.2.1)
  change Calls Tryd.prog 42 _ _ _ at hcon
  rw [impl_CountWinningTurns.arr_size] at hcon
  refine hcon.mono ?_
  rintro e w' ⟨rfl, q, rfl⟩
  have hl : ((impl_CountWinningTurns.arr T).toList.filter fun x => !(impl_CountWinningTurns.val k V x.1 != s)).length = (T.filter fun t => decide (impl_rowOf.f k V t = some s)).length := by
    have h1 := impl_CountWinningTurns.filt T (fun t => !(impl_CountWinningTurns.val k V t != s))
    have h2 : (T.filter fun t => !(impl_CountWinningTurns.val k V t != s)) = T.filter fun t => decide (impl_rowOf.f k V t = some s) := by
      refine List.filter_congr (fun t ht => ?_)
      have := impl_CountWinningTurns.val_ok hall ⟨t, .inr ht⟩
      simp only at this
      rw [this]
      by_cases c : impl_CountWinningTurns.val k V t = s
      · simp [c]
      · simp [c]
    rw [h2] at h1
    exact h1
  refine ⟨⟨c1, by rw [hl]⟩, ?_⟩
  have := impl_CountWinningTurns.put_below (impl_CountWinningTurns.enc T) g q ((((impl_CountWinningTurns.arr T).toList.filter fun (x : impl_CountWinningTurns.Al T) => !(impl_CountWinningTurns.val k V x.1 != s)) ++ List.replicate (T.length - ((impl_CountWinningTurns.arr T).toList.filter fun (x : impl_CountWinningTurns.Al T) => !(impl_CountWinningTurns.val k V x.1 != s)).length) default).toArray) #[] hB hg1
  rw [Go.Sort.grow_empty] at this
  exact this
set_option maxHeartbeats 800000 in
set_option maxRecDepth 100000 in
theorem impl_CountWinningTurns.index0 (A : Option Addr) (c : Nat) (F : Value) (w : World) : Calls Tryd.prog 50 #[.slice A 0 c, F] w fun e w' => e = .returned (.int .i64 (-1)) ∧ w' = w := by
  go_enter Tryd.func50, Tryd.ntmps50
  go_wp2_with fail
  refine wp_loop_rounds 1 ?_
  rw [rounds_succ]
  go_wp2_with fail
  go_ret
  exact ⟨rfl, rfl⟩
set_option maxHeartbeats 800000 in
set_option maxRecDepth 100000 in
theorem impl_CountWinningTurns.del0 (A : Option Addr) (c : Nat) (F : Value) (w : World) : Calls Tryd.prog 42 #[.slice A 0 c, F] w fun e w' => e = .returned (.slice A 0 c) ∧ w' = w := by
  go_enter Tryd.func42, Tryd.ntmps42
  go_wp2_with (go_at_call 50; refine (impl_CountWinningTurns.index0 _ _ _ _).mono ?_; rintro e w' ⟨rfl, rfl⟩)
  go_ret
  exact ⟨rfl, rfl⟩
theorem impl_CountWinningTurns.St.made (w : World) (A : Option Addr) (cv : Nat) (V : List Int) (s : Int) (n : Nat) (hC : Kd.C (Kd.int .u16) w A V.length V) (hL : Laid32 w) : impl_CountWinningTurns.St (((w.alloc (.cells #[.slice A V.length cv] 28)).drewN n).alloc (.cells #[.int .u16 s] 35)) w.heap.size (w.heap.size + 1) A cv V s := by
  have hb : Below w.heap.size w (((w.alloc (.cells #[.slice A V.length cv] 28)).drewN n).alloc (.cells #[.int .u16 s] 35)) := by repeat (first | exact Below.refl _ _ | apply below_alloc | apply pw_below_drewN)
  have s1 : ((w.alloc (.cells #[.slice A V.length cv] 28)).drewN n).heap.size = w.heap.size + 1 := by simp
  refine ⟨?_, ?_, Kd.C_below hC hb, hL.below hb⟩
  · rw [heap_alloc_old _ _ (by omega)]
    exact heap_alloc_new w _
  · have e := heap_alloc_new ((w.alloc (.cells #[.slice A V.length cv] 28)).drewN n) (.cells #[.int .u16 s] 35)
    rw [s1] at e
    exact e
set_option maxHeartbeats 1600000 in
set_option maxRecDepth 100000 in
theorem impl_CountWinningTurns.win (k : Nat) (rule row : Int) (V T : List Int) (A : Option Addr) (cv : Nat) (s : Int) (w : World) (hC : Kd.C (Kd.int .u16) w A V.length V) (hcv : V.length ≤ cv) (hL : Laid32 w) (g1 : impl_rowOf.f k V row = some s) (g2 : impl_allTurns.f k rule row = some T) (hall : ((0 :: T).all fun t => (impl_rowOf.f k V t).isSome) = true) (hT : T.length ≤ 100000) :
    Calls Tryd.prog 34 #[.int .i64 rule, .int .u32 row, .slice A V.length cv] w fun e w' => (∃ A' c', e = .returned (.slice A' (T.filter fun t => decide (impl_rowOf.f k V t = some s)).length c')) ∧ Below w.heap.size w w' := by
  have R1 := Aside0.mk (fun W (hb : Below w.heap.size w W) => impl_rowOf.calls k A cv V row s W (Kd.C_below hC hb) hcv (hL.below hb) g1)
  have R2 := Aside0.mk (fun W (hb : Below w.heap.size w W) => impl_allTurns.calls k rule row T W (hL.below hb) g2)
  have HC := Aside0.mk hC
  have HL := Aside0.mk hL
  clear g1 g2 hC hL
  go_enter Tryd.func34, Tryd.ntmps34
  go_wp2_with fail
  go_at_call 32
  refine (R1.out _ (by repeat (first | exact Below.refl _ _ | apply below_alloc | apply pw_below_drewN))).mono ?_
  rintro e w1 ⟨rfl, ⟨nd, rfl⟩⟩
  go_wp2_with fail
  have hS := impl_CountWinningTurns.St.made w A cv V s nd HC.out HL.out
  have hb2 : Below w.heap.size w (((w.alloc (.cells #[.slice A V.length cv] 28)).drewN nd).alloc (.cells #[.int .u16 s] 35)) := by repeat (first | exact Below.refl _ _ | apply below_alloc | apply pw_below_drewN)
  have HS := Aside0.mk hS
  have HB2 := Aside0.mk hb2
  clear hS hb2 R1
  generalize (((w.alloc (.cells #[.slice A V.length cv] 28)).drewN nd).alloc (.cells #[.int .u16 s] 35)) = w2 at HS HB2 ⊢
  go_at_call 43
  refine (R2.out _ HB2.out).mono ?_
  rintro e w3 ⟨v3, rfl, hR3, hB3⟩
  obtain ⟨A1, c1, rfl⟩ := Kd.R_slice hR3
  have HR3 := Aside0.mk hR3
  have HB3 := Aside0.mk hB3
  have HA := Aside0.mk hall
  clear hR3 hB3 R2 hall
  go_wp2_with fail
  go_at_call 42
  by_cases hp : 0 < T.length
  · refine (impl_CountWinningTurns.del k V T A cv s w.heap.size (w.heap.size + 1) w2 w3 HS.out hcv HA.out A1 c1 HR3.out HB3.out hp hT).mono ?_
    rintro e w4 ⟨⟨c4, rfl⟩, hb4⟩
    have HB4 := Aside0.mk hb4
    clear hb4
    go_wp2_with fail
    go_ret
    exact ⟨⟨_, _, rfl⟩, below_step HB2.out HB4.out⟩
  · have e0 : T = [] := List.length_eq_zero_iff.1 (by omega)
    subst e0
    refine (impl_CountWinningTurns.del0 A1 c1 _ w3).mono ?_
    rintro e w4 ⟨rfl, rfl⟩
    go_wp2_with fail
    go_ret
    exact ⟨⟨_, _, rfl⟩, below_step HB2.out HB3.out⟩
set_option maxHeartbeats 1600000 in
set_option maxRecDepth 100000 in
theorem impl_CountWinningTurns.calls (k : Nat) (a0 : Int) (a1 : Int) (r1 : Int) (r2 : Int) (w : World) (hLaid32_ : Laid32 w) (h : impl_CountWinningTurns.f k a0 a1 = some (r1, r2)) :
    Calls Tryd.prog 20 #[.int .i64 a0, .int .u32 a1] w fun e w' => e = .returned (.tuple #[.int .i64 r1, .int .i64 r2]) ∧ Below w.heap.size w w' := by
  unfold impl_CountWinningTurns.f at h
  obtain ⟨c, g0, h⟩ := Option.bind_eq_some_iff.mp h
  have R0 := Aside0.mk (fun W => impl_rowRule.calls a0 a1 c W g0)
  by_cases z : c = 0
  · subst z
    rw [if_pos rfl] at h
    obtain ⟨V, g1, h⟩ := Option.bind_eq_some_iff.mp h
    obtain ⟨s, g2, h⟩ := Option.bind_eq_some_iff.mp h
    obtain ⟨T, g3, h⟩ := Option.bind_eq_some_iff.mp h
    unfold impl_CountWinningTurns.cnt at h
    by_cases hc : ((0 :: T).all fun t => (impl_rowOf.f k V t).isSome) = true ∧ T.length ≤ 100000
    · rw [if_pos hc] at h
      injection h with h
      injection h with e1 e2
      have HL := Aside0.mk hLaid32_
      have G1 := Aside0.mk g1
      have G2 := Aside0.mk g2
      have G3 := Aside0.mk g3
      have HC := Aside0.mk hc
      clear g0 g1 g2 g3 hc hLaid32_
      go_enter Tryd.func20, Tryd.ntmps20
      go_wp2_with fail
      go_at_call 31
      refine (R0.out _).mono ?_
      rintro e w1 ⟨rfl, ⟨n1, rfl⟩⟩
      go_wp2_with fail
      go_at_call 28
      refine (impl_coinValues.calls k a0 24 V _ (by first | exact HL.out.drew _ | exact HL.out) G1.out).mono ?_
      rintro e w2 ⟨v2, rfl, hR2, hB2⟩
      obtain ⟨A2, c2, rfl⟩ := Kd.R_slice hR2
      have hm := Kd.R_reads' hR2
      have hb2 : Below w.heap.size w w2 := below_step (pw_below_drewN (Below.refl _ _) n1) hB2
      have W5 := Aside0.mk (impl_CountWinningTurns.win k a0 a1 V T A2 c2 s w2 hm.2.2 hm.2.1 (HL.out.below hb2) G2.out G3.out HC.out.1 HC.out.2)
      have HB2 := Aside0.mk hb2
      clear hR2 hB2 hm hb2
      go_wp2_with fail
      go_at_call 34
      refine (W5.out).mono ?_
      rintro e w3 ⟨⟨A3, c3, rfl⟩, hb3⟩
      have HB3 := Aside0.mk hb3
      clear hb3 W5
      go_wp2_with fail
      go_ret2
      exact ⟨by rw [← e1, ← e2]; rfl, below_step HB2.out HB3.out⟩
    · rw [if_neg hc] at h
      cases h
  · rw [if_neg z] at h
    injection h with h
    injection h with e1 e2
    subst e1 e2
    have zb : (c != 0) = true := bne_iff_ne.mpr z
    clear g0 hLaid32_
    go_enter Tryd.func20, Tryd.ntmps20
    go_wp2_with fail
    go_at_call 31
    refine (R0.out _).mono ?_
    rintro e w1 ⟨rfl, ⟨n1, rfl⟩⟩
    go_wp2_with fail
    go_ret2
    exact ⟨rfl, pw_below_drewN (Below.refl _ _) n1⟩

/-! ### laws_FnExactCountWinningTurns: function 6 -/
def laws_FnExactCountWinningTurns.f (k : Nat) (a0 : Int) (a1 : Int) : Option (Bool) := (spec_CountWinningTurns.f k a0 a1).bind fun bt304 => ((impl_CountWinningTurns.f k a0 a1).bind fun bt306 => (if bt306.1 = bt304.1 then (if bt306.2 = bt304.2 then (some true) else (some false)) else (some false)))
theorem laws_FnExactCountWinningTurns.mono : ∀ a0 a1 k, LeO (laws_FnExactCountWinningTurns.f k a0 a1) (laws_FnExactCountWinningTurns.f (k + 1) a0 a1) := by
  intro a0 a1 k
  unfold laws_FnExactCountWinningTurns.f
  repeat' first
      | (with_reducible exact impl_CountWinningTurns.mono _ _ _)
      | (with_reducible exact spec_CountWinningTurns.mono _ _ _)
      | (with_reducible exact LeO.refl _)
      | (with_reducible exact LeO.none _)
      | (with_reducible refine LeO.ite ?_ ?_)
      | (with_reducible refine LeO.bind ?_ (fun _ => ?_))
      | exact impl_CountWinningTurns.mono _ _ _
      | exact spec_CountWinningTurns.mono _ _ _
      | exact LeO.none _
      | refine LeO.ite ?_ ?_
      | refine LeO.bind ?_ (fun _ => ?_)
set_option maxHeartbeats 8000000 in
set_option maxRecDepth 100000 in
theorem laws_FnExactCountWinningTurns.calls (k : Nat) (a0 : Int) (a1 : Int) (r : Bool) (w : World) (hLaid32_ : Laid32 w) (h : laws_FnExactCountWinningTurns.f k a0 a1 = some r) :
    Calls Tryd.prog 6 #[.int .i64 a0, .int .u32 a1] w fun e w' => e = .returned (.bool r) ∧ Below w.heap.size w w' := by
  have HLaid32_ := Aside0.mk hLaid32_
  clear hLaid32_
  have HB := Aside0.mk (Below.refl w.heap.size w)
  have H : ((spec_CountWinningTurns.f k a0 a1).bind fun bt304 => ((impl_CountWinningTurns.f k a0 a1).bind fun bt306 => (if bt306.1 = bt304.1 then (if bt306.2 = bt304.2 then (some true) else (some false)) else (some false)))) = some r := h
  clear h
  replace H := Option.bind_eq_some_iff.mp H
  obtain ⟨⟨t304, t305⟩, A30, H⟩ := H
  replace H : ((impl_CountWinningTurns.f k a0 a1).bind fun bt306 => (if bt306.1 = t304 then (if bt306.2 = t305 then (some true) else (some false)) else (some false))) = some r := H
  have A3 := Aside0.mk A30
  clear A30
  replace H := Option.bind_eq_some_iff.mp H
  obtain ⟨⟨t306, t307⟩, A40, H⟩ := H
  replace H : (if t306 = t304 then (if t307 = t305 then (some true) else (some false)) else (some false)) = some r := H
  have A4 := Aside0.mk A40
  clear A40
  by_cases c5 : t306 = t304
  · rw [if_pos c5] at H
    have c5b0 : (t306 == t304) = true := beq_iff_eq.mpr c5
    have c5b1 : (t306 != t304) = false := bne_eq_false_iff_eq.mpr c5
    clear c5
    by_cases c6 : t307 = t305
    · rw [if_pos c6] at H
      have c6b0 : (t307 == t305) = true := beq_iff_eq.mpr c6
      have c6b1 : (t307 != t305) = false := bne_eq_false_iff_eq.mpr c6
      clear c6
      obtain rfl := Option.some.inj H
      go_enter Tryd.func6, Tryd.ntmps6
      go_wp2_with (first | ((with_reducible refine gate_callee (f := 19) rfl ?_); refine goesL_ (some 12) rfl rfl Tryd.func19 (by kernel_rfl) rfl #[.int .i64 a0, .int .u32 a1] rfl (by (try simp only [List.map_toArray, List.map_cons, List.map_nil]); first | done | rfl | (simp only [List.length_drop, List.length_take]; rfl)) ?_; (with_reducible refine (spec_CountWinningTurns.calls k a0 a1 t304 t305 _ A3.out).mono ?_); rintro e w7 ⟨rfl, hb⟩; refine ⟨_, rfl, ?_⟩; have n0_ := Aside0.mk (below_step (by repeat (first | (with_reducible first | exact HB.out | apply below_alloc | apply pw_below_drewN | apply below_drew1) | exact HB.out)) hb); clear HB; have HB := n0_; clear n0_; (try clear hb); (try clear hb2); (try clear hk); (try clear hi)) | ((with_reducible refine gate_callee (f := 20) rfl ?_); refine goesL_ (some 18) rfl rfl Tryd.func20 (by kernel_rfl) rfl #[.int .i64 a0, .int .u32 a1] rfl (by (try simp only [List.map_toArray, List.map_cons, List.map_nil]); first | done | rfl | (simp only [List.length_drop, List.length_take]; rfl)) ?_; (with_reducible refine (impl_CountWinningTurns.calls k a0 a1 t306 t307 _ (by repeat (first | exact HLaid32_.out | exact Laid32.below HLaid32_.out HB.out | exact Laid32.below HLaid32_.out (Drawn0.below ⟨⟨_, rfl⟩⟩) | apply Laid32.drew)) A4.out).mono ?_); rintro e w8 ⟨rfl, hb⟩; refine ⟨_, rfl, ?_⟩; have n0_ := Aside0.mk (below_step (by repeat (first | (with_reducible first | exact HB.out | apply below_alloc | apply pw_below_drewN | apply below_drew1) | exact HB.out)) hb); clear HB; have HB := n0_; clear n0_; (try clear hb); (try clear hb2); (try clear hk); (try clear hi)))
      go_ret
      exact ⟨by first | rfl | (simp [errW_none, errW_some] <;> rfl) | (simp [*, errW_none, errW_some] <;> rfl), by repeat (first | (with_reducible first | exact HB.out | apply below_alloc | apply pw_below_drewN | apply below_drew1) | exact HB.out)⟩
    · rw [if_neg c6] at H
      have c6b0 : (t307 == t305) = false := beq_eq_false_iff_ne.mpr c6
      have c6b1 : (t307 != t305) = true := bne_iff_ne.mpr c6
      obtain rfl := Option.some.inj H
      go_enter Tryd.func6, Tryd.ntmps6
      go_wp2_with (first | ((with_reducible refine gate_callee (f := 19) rfl ?_); refine goesL_ (some 12) rfl rfl Tryd.func19 (by kernel_rfl) rfl #[.int .i64 a0, .int .u32 a1] rfl (by (try simp only [List.map_toArray, List.map_cons, List.map_nil]); first | done | rfl | (simp only [List.length_drop, List.length_take]; rfl)) ?_; (with_reducible refine (spec_CountWinningTurns.calls k a0 a1 t304 t305 _ A3.out).mono ?_); rintro e w9 ⟨rfl, hb⟩; refine ⟨_, rfl, ?_⟩; have n0_ := Aside0.mk (below_step (by repeat (first | (with_reducible first | exact HB.out | apply below_alloc | apply pw_below_drewN | apply below_drew1) | exact HB.out)) hb); clear HB; have HB := n0_; clear n0_; (try clear hb); (try clear hb2); (try clear hk); (try clear hi)) | ((with_reducible refine gate_callee (f := 20) rfl ?_); refine goesL_ (some 18) rfl rfl Tryd.func20 (by kernel_rfl) rfl #[.int .i64 a0, .int .u32 a1] rfl (by (try simp only [List.map_toArray, List.map_cons, List.map_nil]); first | done | rfl | (simp only [List.length_drop, List.length_take]; rfl)) ?_; (with_reducible refine (impl_CountWinningTurns.calls k a0 a1 t306 t307 _ (by repeat (first | exact HLaid32_.out | exact Laid32.below HLaid32_.out HB.out | exact Laid32.below HLaid32_.out (Drawn0.below ⟨⟨_, rfl⟩⟩) | apply Laid32.drew)) A4.out).mono ?_); rintro e w10 ⟨rfl, hb⟩; refine ⟨_, rfl, ?_⟩; have n0_ := Aside0.mk (below_step (by repeat (first | (with_reducible first | exact HB.out | apply below_alloc | apply pw_below_drewN | apply below_drew1) | exact HB.out)) hb); clear HB; have HB := n0_; clear n0_; (try clear hb); (try clear hb2); (try clear hk); (try clear hi)))
      go_ret
      exact ⟨by first | rfl | (simp [errW_none, errW_some] <;> rfl) | (simp [*, errW_none, errW_some] <;> rfl), by repeat (first | (with_reducible first | exact HB.out | apply below_alloc | apply pw_below_drewN | apply below_drew1) | exact HB.out)⟩
  · rw [if_neg c5] at H
    have c5b0 : (t306 == t304) = false := beq_eq_false_iff_ne.mpr c5
    have c5b1 : (t306 != t304) = true := bne_iff_ne.mpr c5
    obtain rfl := Option.some.inj H
    go_enter Tryd.func6, Tryd.ntmps6
    go_wp2_with (first | ((with_reducible refine gate_callee (f := 19) rfl ?_); refine goesL_ (some 12) rfl rfl Tryd.func19 (by kernel_rfl) rfl #[.int .i64 a0, .int .u32 a1] rfl (by (try simp only [List.map_toArray, List.map_cons, List.map_nil]); first | done | rfl | (simp only [List.length_drop, List.length_take]; rfl)) ?_; (with_reducible refine (spec_CountWinningTurns.calls k a0 a1 t304 t305 _ A3.out).mono ?_); rintro e w11 ⟨rfl, hb⟩; refine ⟨_, rfl, ?_⟩; have n0_ := Aside0.mk (below_step (by repeat (first | (with_reducible first | exact HB.out | apply below_alloc | apply pw_below_drewN | apply below_drew1) | exact HB.out)) hb); clear HB; have HB := n0_; clear n0_; (try clear hb); (try clear hb2); (try clear hk); (try clear hi)) | ((with_reducible refine gate_callee (f := 20) rfl ?_); refine goesL_ (some 18) rfl rfl Tryd.func20 (by kernel_rfl) rfl #[.int .i64 a0, .int .u32 a1] rfl (by (try simp only [List.map_toArray, List.map_cons, List.map_nil]); first | done | rfl | (simp only [List.length_drop, List.length_take]; rfl)) ?_; (with_reducible refine (impl_CountWinningTurns.calls k a0 a1 t306 t307 _ (by repeat (first | exact HLaid32_.out | exact Laid32.below HLaid32_.out HB.out | exact Laid32.below HLaid32_.out (Drawn0.below ⟨⟨_, rfl⟩⟩) | apply Laid32.drew)) A4.out).mono ?_); rintro e w12 ⟨rfl, hb⟩; refine ⟨_, rfl, ?_⟩; have n0_ := Aside0.mk (below_step (by repeat (first | (with_reducible first | exact HB.out | apply below_alloc | apply pw_below_drewN | apply below_drew1) | exact HB.out)) hb); clear HB; have HB := n0_; clear n0_; (try clear hb); (try clear hb2); (try clear hk); (try clear hi)))
    go_ret
    exact ⟨by first | rfl | (simp [errW_none, errW_some] <;> rfl) | (simp [*, errW_none, errW_some] <;> rfl), by repeat (first | (with_reducible first | exact HB.out | apply below_alloc | apply pw_below_drewN | apply below_drew1) | exact HB.out)⟩

/-- THE ONE PURE STATEMENT of laws_FnExactCountWinningTurns: yours. -/
def laws_FnExactCountWinningTurns.Pure : Prop := ∀ (a0 : Int) (a1 : Int), (Lit.int .i64 a0).wf = true → (Lit.int .u32 a1).wf = true → ∃ k, laws_FnExactCountWinningTurns.f k a0 a1 = some true
theorem laws_FnExactCountWinningTurns.walk (P : laws_FnExactCountWinningTurns.Pure) (a0 : Int) (a1 : Int) (w : World) (hLaid32_ : Laid32 w) (w0 : (Lit.int .i64 a0).wf = true) (w1 : (Lit.int .u32 a1).wf = true) :
    Calls Tryd.prog 6 #[.int .i64 a0, .int .u32 a1] w fun e w' => e = .returned (.bool true) ∧ Below w.heap.size w w' := by
  obtain ⟨k, h⟩ := P a0 a1 w0 w1
  refine (laws_FnExactCountWinningTurns.calls k a0 a1 true w hLaid32_ h).mono ?_
  rintro e w' ⟨rfl, hd⟩
  exact ⟨rfl, hd⟩

end Go.Proofs.YtnicjjnghclgpaaDoor.QFnExactCountWinningTurns
