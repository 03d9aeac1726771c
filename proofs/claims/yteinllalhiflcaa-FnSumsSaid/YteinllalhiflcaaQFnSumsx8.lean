/- Written by the session's own program (wip/myprint.py), for the law FnSums: each function as a plain Lean function, and its contract. -/
import Derived.Test.YteinllalhiflcaaQFnSumsx0
import Derived.Test.YteinllalhiflcaaQFnSumsx2
import Derived.Test.YteinllalhiflcaaQFnSumsx6
import Derived.Test.YteinllalhiflcaaQFnSumsx7
namespace Go.Proofs.Yteinllalhiflcaa.QFnSums
open Go.RowKit Go.Proofs.YteinllalhiflcaaW.PrintWords Go.Proofs.YteinllalhiflcaaW.PrintLast Go.Proofs.YteinllalhiflcaaW.PrintMore
attribute [local go_sem] max2_int min2_int max_two min_two max_three min_three max_four min_four   -- for this text's walks alone
set_option linter.unusedVariables false
set_option linter.unusedSimpArgs false

/-! ### impl_mex: function 87 -/
def impl_mex.l0 : Nat → List Bool → List Int → Int → Int → Option (Int)
  | 0, _, _, _, _ => none
  | k + 1, x3, x10, x11, x12 => if x12 < x11 then (if 0 ≤ x12 then (if x12 < (x10.length : Int) then (if (wrap64 (rd x10 x12)) < (x3.length : Int) then (if 0 ≤ (rd x10 x12) then (if (rd x10 x12) < (x3.length : Int) then (impl_mex.l0 k (x3.set ((rd x10 x12) : Int).toNat true) x10 x11 (wrap64 (x12 + 1))) else (none)) else (none)) else (impl_mex.l0 k x3 x10 x11 (wrap64 (x12 + 1)))) else (none)) else (none)) else ((slices_Index_bool_bool.f k x3 false).bind fun t252 => (some t252))
def impl_mex.f (k : Nat) (l0 : List Int) : Option (Int) := if 0 ≤ (wrap64 ((l0.length : Int) + 1)) then (if (wrap64 ((l0.length : Int) + 1) : Int).toNat ≤ 281474976710656 then (impl_mex.l0 k (List.replicate (wrap64 ((l0.length : Int) + 1) : Int).toNat false) l0 (l0.length : Int) 0) else (none)) else (none)
theorem impl_mex.mono_l : ∀ k, (∀ y0 y1 y2 y3, LeO (impl_mex.l0 k y0 y1 y2 y3) (impl_mex.l0 (k + 1) y0 y1 y2 y3))
  | 0 => fun _ _ _ _ r h => by simp [impl_mex.l0] at h
  | k + 1 => by
    have ih0 := impl_mex.mono_l k
    · intro y0 y1 y2 y3
      unfold impl_mex.l0
      repeat' first
      | (with_reducible exact ih0 _ _ _ _)
      | (with_reducible exact slices_Index_bool_bool.mono _ _ _)
      | (with_reducible exact LeO.refl _)
      | (with_reducible exact LeO.none _)
      | (with_reducible refine LeO.ite ?_ ?_)
      | (with_reducible refine LeO.bind ?_ (fun _ => ?_))
      | exact ih0 _ _ _ _
      | exact slices_Index_bool_bool.mono _ _ _
      | exact LeO.none _
      | refine LeO.ite ?_ ?_
      | refine LeO.bind ?_ (fun _ => ?_)
theorem impl_mex.mono : ∀ a0 k, LeO (impl_mex.f k a0) (impl_mex.f (k + 1) a0) := by
  intro a0 k
  have ih0 := impl_mex.mono_l k
  unfold impl_mex.f
  repeat' first
      | (with_reducible exact ih0 _ _ _ _)
      | (with_reducible exact slices_Index_bool_bool.mono _ _ _)
      | (with_reducible exact LeO.refl _)
      | (with_reducible exact LeO.none _)
      | (with_reducible refine LeO.ite ?_ ?_)
      | (with_reducible refine LeO.bind ?_ (fun _ => ?_))
      | exact ih0 _ _ _ _
      | exact slices_Index_bool_bool.mono _ _ _
      | exact LeO.none _
      | refine LeO.ite ?_ ?_
      | refine LeO.bind ?_ (fun _ => ?_)
set_option maxHeartbeats 8000000 in
set_option maxRecDepth 100000 in
theorem impl_mex.calls (k : Nat) (A0 : Option Addr) (c0 : Nat) (l0 : List Int) (r : Int) (w : World) (hr0 : Kd.C (Kd.int .u16) w A0 l0.length l0) (hc0 : l0.length ≤ c0) (h : impl_mex.f k l0 = some r) :
    Calls Try.prog 87 #[.slice A0 l0.length c0] w fun e w' => e = .returned (.int .i64 r) ∧ Below w.heap.size w w' := by
  have HR0 := Aside0.mk hr0
  have HC0 := Aside0.mk hc0
  clear hr0 hc0
  have HB := Aside0.mk (Below.refl w.heap.size w)
  have H : (if 0 ≤ (wrap64 ((l0.length : Int) + 1)) then (if (wrap64 ((l0.length : Int) + 1) : Int).toNat ≤ 281474976710656 then (impl_mex.l0 k (List.replicate (wrap64 ((l0.length : Int) + 1) : Int).toNat false) l0 (l0.length : Int) 0) else (none)) else (none)) = some r := h
  clear h
  obtain ⟨ji2, hji2⟩ : ∃ j_ : Int, (wrap64 ((l0.length : Int) + 1)) = j_ := ⟨_, rfl⟩
  replace H : (if 0 ≤ (ji2) then (if (ji2 : Int).toNat ≤ 281474976710656 then (impl_mex.l0 k (List.replicate (ji2 : Int).toNat false) l0 (l0.length : Int) 0) else (none)) else (none)) = some r := by first | (rw [hji2] at H; exact H) | (simp only [hji2] at H ⊢; exact H)
  have hji2w : (IntKind.i64.wrap ((l0.length : Int) + 1)) = ji2 := (i64_w _).trans hji2
  by_cases c3 : 0 ≤ (ji2)
  · rw [if_pos c3] at H
    have c3b0 := eq_true c3
    have c3b1 : decide (0 ≤ (ji2)) = true := decide_eq_true c3
    clear c3
    by_cases c4 : (ji2 : Int).toNat ≤ 281474976710656
    · rw [if_pos c4] at H
      have c4b0 := eq_true c4
      have c4b1 : decide ((ji2 : Int).toNat ≤ 281474976710656) = true := decide_eq_true c4
      clear c4
      obtain ⟨y247, hy247⟩ : ∃ y_ : List Bool, y_ = (List.replicate (ji2 : Int).toNat false) := ⟨_, rfl⟩
      replace H : (impl_mex.l0 k y247 l0 (l0.length : Int) 0) = some r := by first | (rw [hy247]; with_reducible exact H) | (have H2_ := (Option.bind_some _ _).symm.trans H; rw [hy247]; with_reducible exact H2_) | (have H2_ := (Option.bind_some _ _).symm.trans H; with_reducible exact H2_) | with_reducible exact H | (rw [hy247]; exact H) | exact H
      have Ny247 := Aside0.mk hy247
      clear hy247
      have H' := Aside0.mk H
      clear H
      go_enter Try.func87, Try.ntmps87
      go_wp2_with (first | ((with_reducible refine gate_dst (N := 9) rfl ?_); refine Kd.R_make Kd.bool _ 4 rfl (N := 9) rfl 109 _ _ rfl ji2 rfl rfl Try.underlying109 (.bool false) 1 info4 rfl (by decide) (by omega) false (ok := fun _ => True) (okp := fun _ => True) rfl (fun _ hk => hk) trivial (of_decide_eq_true (by first | (with_reducible assumption) | assumption)) (Nat.le_trans (Nat.mul_le_mul_right _ (of_decide_eq_true (by first | (with_reducible assumption) | assumption) : ji2.toNat ≤ 281474976710656)) (by omega)) (Below.refl _ _) (Nat.le_refl _) ?_; intro v248 w5 ho6 hb hg_ hnew_; clear hg_ hnew_; (first | rw [← Ny247.out] at ho6 | (simp only [Int.reduceToNat] at ho6; rw [← Ny247.out] at ho6)); have n0_ := Aside0.mk (Kd.R_lower ho6 (below_size (by repeat (first | (with_reducible first | exact HB.out | apply below_alloc | apply pw_below_drewN | apply below_drew1) | exact HB.out)))); have n1_ := Aside0.mk (below_step (by repeat (first | (with_reducible first | exact HB.out | apply below_alloc | apply pw_below_drewN | apply below_drew1) | exact HB.out)) hb); clear HB; have HO249 := n0_; have HB := n1_; clear n0_ n1_; clear hb ho6))
      go_loopg [12] k (fun kq v12 w' => ∃ (x3_1 : List Bool) (x12_1 : Int), v12 = .int .i64 x12_1 ∧ Aside0 (impl_mex.l0 kq x3_1 l0 (l0.length : Int) x12_1 = some r) ∧ Aside0 (kq ≤ k) ∧ Aside0 (Kd.R Kd.bool 4 w' w.heap.size (fun _ => True) v248 x3_1) ∧ Aside0 (Below w.heap.size w w'))
      case atStart => exact ⟨(y247), (0), (by first | rfl | (simp; done) | (simp [*]; done)), H', ⟨Nat.le_refl _⟩, ⟨by (with_reducible repeat (first | apply Kd.R_alloc | apply Kd.R_drewN | apply Kd.R_drew)); exact HO249.out⟩, ⟨by repeat (first | (with_reducible first | exact HB.out | apply below_alloc | apply pw_below_drewN | apply below_drew1) | exact HB.out)⟩⟩
      case round =>
        clear H'
        try clear p2
        try clear c3
        try clear c3b0
        try clear c3b1
        try clear c4
        try clear c4b0
        try clear c4b1
        try clear p6
        obtain ⟨x3_1, x12_1, rfl, HA, HK1, HO_3, HB⟩ := hrel
        cases gk with
        | zero => exact absurd HA.out (by simp [impl_mex.l0])
        | succ k1 =>
          have H := HA.out
          clear HA
          simp only [impl_mex.l0] at H
          by_cases c7 : x12_1 < (l0.length : Int)
          · rw [if_pos c7] at H
            have c7b0 : decide (x12_1 < (l0.length : Int)) = true := decide_eq_true c7
            clear c7
            by_cases c8 : 0 ≤ x12_1
            · rw [if_pos c8] at H
              have c8b0 : decide (0 ≤ x12_1) = true := decide_eq_true c8
              clear c8
              by_cases c9 : x12_1 < (l0.length : Int)
              · rw [if_pos c9] at H
                have c9b0 : decide (x12_1 < (l0.length : Int)) = true := decide_eq_true c9
                clear c9
                by_cases c10 : (wrap64 (rd l0 x12_1)) < (x3_1.length : Int)
                · rw [if_pos c10] at H
                  have c10b0 : decide ((wrap64 (rd l0 x12_1)) < (x3_1.length : Int)) = true := decide_eq_true c10
                  clear c10
                  by_cases c11 : 0 ≤ (rd l0 x12_1)
                  · rw [if_pos c11] at H
                    have c11b0 : decide (0 ≤ (rd l0 x12_1)) = true := decide_eq_true c11
                    clear c11
                    by_cases c12 : (rd l0 x12_1) < (x3_1.length : Int)
                    · rw [if_pos c12] at H
                      have c12b0 : decide ((rd l0 x12_1) < (x3_1.length : Int)) = true := decide_eq_true c12
                      clear c12
                      obtain ⟨y251, hy251⟩ : ∃ y_ : List Bool, y_ = (x3_1.set ((rd l0 x12_1) : Int).toNat true) := ⟨_, rfl⟩
                      replace H : (impl_mex.l0 k1 y251 l0 (l0.length : Int) (wrap64 (x12_1 + 1))) = some r := by first | (rw [hy251]; with_reducible exact H) | (have H2_ := (Option.bind_some _ _).symm.trans H; rw [hy251]; with_reducible exact H2_) | (have H2_ := (Option.bind_some _ _).symm.trans H; with_reducible exact H2_) | with_reducible exact H | (rw [hy251]; exact H) | exact H
                      have Ny251 := Aside0.mk hy251
                      clear hy251
                      have H' := Aside0.mk H
                      clear H
                      have p250 : 0 ≤ (x12_1 : Int) := of_decide_eq_true (by first | (with_reducible assumption) | assumption)
                      have q250 : x12_1 < (l0.length : Int) := of_decide_eq_true (by first | (with_reducible assumption) | assumption)
                      obtain ⟨ad250, e250, hx250_0⟩ := Kd.at_int HR0.out x12_1 p250 q250
                      cases e250
                      replace hx250_0 := (HB.out.cell (World.block_lt_of_cell? w _ hx250_0)).trans hx250_0
                      replace p250 := eq_true p250
                      replace q250 := eq_true q250
                      obtain ⟨Ao14, co14, eo14⟩ := Kd.R_slice HO_3.out
                      subst eo14
                      have p13 : 0 ≤ ((rd l0 x12_1) : Int) := of_decide_eq_true (by first | (with_reducible assumption) | assumption)
                      have q13 : ((rd l0 x12_1) : Int) < ((x3_1.length : Int) : Int) := of_decide_eq_true (by first | (with_reducible assumption) | assumption)
                      obtain ⟨go13, co13, eo13, gb13, gl13, cl13, HG13⟩ := Kd.R_form HO_3.out (by omega)
                      (first | cases eo13 | (injection eo13 with ea_ en_ ec_; (first | subst ea_ | (injection ea_ with ea_; subst ea_)); subst ec_; clear en_))
                      have GB13 := Aside0.mk gb13
                      have GG13 := Aside0.mk HG13
                      clear gb13 gl13 HG13
                      obtain ⟨hx13_0, hf13_0⟩ := Kd.R_celln false HO_3.out ((rd l0 x12_1) : Int) p13 q13
                      replace p13 := eq_true p13
                      replace q13 := eq_true q13
                      have HP15 := Kd.R_putg HO_3.out ((rd l0 x12_1) : Int) true
                      go_wp2_with (first | ((with_reducible refine gate_store (t := 4) (p := 23) rfl ?_); refine store_event (t := 4) (p := 23) (v := ?vo_w16) (w1 := (wr.setCell ⟨go13, ((rd l0 x12_1) : Int).toNat, none⟩ (.bool true))) ?hg ?ho ?hn ?hr ?_; (case ho => rfl); (case hg => rfl); (case hn => rfl); (case hr => first | (go_simp; done) | (go_simp; rfl)); intro w16 hw; have hg : wr.grownBy w16 (some go13) := (by rw [hw]; exact HP15.2); have hp_ : Kd.R Kd.bool 4 w16 w.heap.size (fun _ => True) (.slice (some ⟨go13, 0, none⟩) x3_1.length co14) y251 := (by rw [hw, Ny251.out]; exact HP15.1); clear HP15; have n0_ := Aside0.mk (hp_); have n1_ := Aside0.mk ((by rw [hw]; exact below_set (HB.out) GB13.out : Below w.heap.size w w16)); clear HO_3; clear HB; have HO_3 := n0_; have HB := n1_; clear n0_ n1_; clear hg hw hp_))
                      go_roundg k1
                      case measure => have := HK1.out; omega
                      case rel => exact ⟨(y251), (wrap64 (x12_1 + 1)), (by first | rfl | (simp; done) | (simp [*]; done)), H', ⟨by have := HK1.out; omega⟩, ⟨by (with_reducible repeat (first | apply Kd.R_alloc | apply Kd.R_drewN | apply Kd.R_drew)); exact HO_3.out⟩, ⟨by repeat (first | (with_reducible first | exact HB.out | apply below_alloc | apply pw_below_drewN | apply below_drew1) | exact HB.out)⟩⟩
                    · rw [if_neg c12] at H
                      exact absurd H (by simp)
                  · rw [if_neg c11] at H
                    exact absurd H (by simp)
                · rw [if_neg c10] at H
                  have c10b0 : decide ((wrap64 (rd l0 x12_1)) < (x3_1.length : Int)) = false := decide_eq_false c10
                  clear c10
                  have H' := Aside0.mk H
                  clear H
                  have p250 : 0 ≤ (x12_1 : Int) := of_decide_eq_true (by first | (with_reducible assumption) | assumption)
                  have q250 : x12_1 < (l0.length : Int) := of_decide_eq_true (by first | (with_reducible assumption) | assumption)
                  obtain ⟨ad250, e250, hx250_0⟩ := Kd.at_int HR0.out x12_1 p250 q250
                  cases e250
                  replace hx250_0 := (HB.out.cell (World.block_lt_of_cell? w _ hx250_0)).trans hx250_0
                  replace p250 := eq_true p250
                  replace q250 := eq_true q250
                  obtain ⟨Ao17, co17, eo17⟩ := Kd.R_slice HO_3.out
                  subst eo17
                  go_wp2
                  go_roundg k1
                  case measure => have := HK1.out; omega
                  case rel => exact ⟨(x3_1), (wrap64 (x12_1 + 1)), (by first | rfl | (simp; done) | (simp [*]; done)), H', ⟨by have := HK1.out; omega⟩, ⟨by (with_reducible repeat (first | apply Kd.R_alloc | apply Kd.R_drewN | apply Kd.R_drew)); exact HO_3.out⟩, ⟨by repeat (first | (with_reducible first | exact HB.out | apply below_alloc | apply pw_below_drewN | apply below_drew1) | exact HB.out)⟩⟩
              · rw [if_neg c9] at H
                exact absurd H (by simp)
            · rw [if_neg c8] at H
              exact absurd H (by simp)
          · rw [if_neg c7] at H
            have c7b0 : decide (x12_1 < (l0.length : Int)) = false := decide_eq_false c7
            clear c7
            replace H := Option.bind_eq_some_iff.mp H
            obtain ⟨t252, A180, H⟩ := H
            replace H : (some t252) = some r := H
            have A18 := Aside0.mk A180
            clear A180
            obtain rfl := Option.some.inj H
            obtain ⟨Ao19, co19, eo19⟩ := Kd.R_slice HO_3.out
            subst eo19
            go_wp2_with (first | ((with_reducible refine gate_callee (f := 99) rfl ?_); refine goesL_ (some 26) rfl rfl Try.func99 (by kernel_rfl) rfl #[.slice Ao19 x3_1.length co19, .bool false] rfl (by (try simp only [List.map_toArray, List.map_cons, List.map_nil]); first | done | rfl | (simp only [List.length_drop, List.length_take]; rfl)) ?_; (with_reducible refine (slices_Index_bool_bool.calls k1 _ _ x3_1 false t252 _ ?side1 ?side2 A18.out).mono ?_); (case side1 => repeat (first | exact (Kd.R_reads' HO_3.out).2.2 | (with_reducible refine Kd.C_alloc ?_ _) | (with_reducible refine Kd.C_drewN ?_ _) | (with_reducible refine Kd.C_drew ?_))); (case side2 => exact (Kd.R_reads' HO_3.out).2.1); rintro e w' ⟨rfl, ⟨nd, rfl⟩⟩; refine ⟨_, rfl, ?_⟩))
            go_ret
            exact ⟨by first | rfl | (simp [errW_none, errW_some] <;> rfl) | (simp only [← hji2]; first | rfl | (simp [errW_none, errW_some] <;> rfl)) | (simp [*, errW_none, errW_some] <;> rfl), by repeat (first | (with_reducible first | exact HB.out | apply below_alloc | apply pw_below_drewN | apply below_drew1) | exact HB.out)⟩
    · rw [if_neg c4] at H
      exact absurd H (by simp)
  · rw [if_neg c3] at H
    exact absurd H (by simp)

/-! ### impl_Game_values: function 79 -/
mutual
def impl_Game_values.l0 : Nat → List Int → List (List Int) → Int → Int → Option (List Int)
  | 0, _, _, _, _ => none
  | k + 1, x3, x10, x11, x12 => if x12 < x11 then (if 0 ≤ x12 then (if x12 < (x10.length : Int) then (impl_Game_values.l1 k x3 (([] : List Int)) x10 x11 x12 (rd_L2 x10 x12) ((rd_L2 x10 x12).length : Int) 0) else (none)) else (none)) else (some x3)
def impl_Game_values.l1 : Nat → List Int → List Int → List (List Int) → Int → Int → List Int → Int → Int → Option (List Int)
  | 0, _, _, _, _, _, _, _, _ => none
  | k + 1, x3, x6, x10, x11, x12, x17, x18, x19 => if x19 < x18 then (if 0 ≤ x19 then (if x19 < (x17.length : Int) then (if 0 ≤ (rd x17 x19) then (if (rd x17 x19) < (x3.length : Int) then (if x6.length < 70368744177664 then (impl_Game_values.l1 k x3 (x6 ++ [rd x3 (rd x17 x19)]) x10 x11 x12 x17 x18 (wrap64 (x19 + 1))) else (none)) else (none)) else (none)) else (none)) else (none)) else ((impl_mex.f k x6).bind fun t265 => (if x3.length < 70368744177664 then (impl_Game_values.l0 k (x3 ++ [IntKind.u16.wrap (t265)]) x10 x11 (wrap64 (x12 + 1))) else (none)))
end
def impl_Game_values.f (k : Nat) (l0 : List (List Int)) : Option (List Int) := impl_Game_values.l0 k (([] : List Int)) l0 (l0.length : Int) 0
theorem impl_Game_values.mono_l : ∀ k, (∀ y0 y1 y2 y3, LeO (impl_Game_values.l0 k y0 y1 y2 y3) (impl_Game_values.l0 (k + 1) y0 y1 y2 y3)) ∧ (∀ y0 y1 y2 y3 y4 y5 y6 y7, LeO (impl_Game_values.l1 k y0 y1 y2 y3 y4 y5 y6 y7) (impl_Game_values.l1 (k + 1) y0 y1 y2 y3 y4 y5 y6 y7))
  | 0 => ⟨fun _ _ _ _ r h => by simp [impl_Game_values.l0] at h, fun _ _ _ _ _ _ _ _ r h => by simp [impl_Game_values.l1] at h⟩
  | k + 1 => by
    obtain ⟨ih0, ih1⟩ := impl_Game_values.mono_l k
    refine ⟨?_, ?_⟩
    · intro y0 y1 y2 y3
      unfold impl_Game_values.l0
      repeat' first
      | (with_reducible exact ih0 _ _ _ _)
      | (with_reducible exact ih1 _ _ _ _ _ _ _ _)
      | (with_reducible exact impl_mex.mono _ _)
      | (with_reducible exact LeO.refl _)
      | (with_reducible exact LeO.none _)
      | (with_reducible refine LeO.ite ?_ ?_)
      | (with_reducible refine LeO.bind ?_ (fun _ => ?_))
      | exact ih0 _ _ _ _
      | exact ih1 _ _ _ _ _ _ _ _
      | exact impl_mex.mono _ _
      | exact LeO.none _
      | refine LeO.ite ?_ ?_
      | refine LeO.bind ?_ (fun _ => ?_)
    · intro y0 y1 y2 y3 y4 y5 y6 y7
      unfold impl_Game_values.l1
      repeat' first
      | (with_reducible exact ih0 _ _ _ _)
      | (with_reducible exact ih1 _ _ _ _ _ _ _ _)
      | (with_reducible exact impl_mex.mono _ _)
      | (with_reducible exact LeO.refl _)
      | (with_reducible exact LeO.none _)
      | (with_reducible refine LeO.ite ?_ ?_)
      | (with_reducible refine LeO.bind ?_ (fun _ => ?_))
      | exact ih0 _ _ _ _
      | exact ih1 _ _ _ _ _ _ _ _
      | exact impl_mex.mono _ _
      | exact LeO.none _
      | refine LeO.ite ?_ ?_
      | refine LeO.bind ?_ (fun _ => ?_)
theorem impl_Game_values.mono : ∀ a0 k, LeO (impl_Game_values.f k a0) (impl_Game_values.f (k + 1) a0) := by
  intro a0 k
  obtain ⟨ih0, ih1⟩ := impl_Game_values.mono_l k
  unfold impl_Game_values.f
  repeat' first
      | (with_reducible exact ih0 _ _ _ _)
      | (with_reducible exact ih1 _ _ _ _ _ _ _ _)
      | (with_reducible exact impl_mex.mono _ _)
      | (with_reducible exact LeO.refl _)
      | (with_reducible exact LeO.none _)
      | (with_reducible refine LeO.ite ?_ ?_)
      | (with_reducible refine LeO.bind ?_ (fun _ => ?_))
      | exact ih0 _ _ _ _
      | exact ih1 _ _ _ _ _ _ _ _
      | exact impl_mex.mono _ _
      | exact LeO.none _
      | refine LeO.ite ?_ ?_
      | refine LeO.bind ?_ (fun _ => ?_)
set_option maxHeartbeats 8000000 in
set_option maxRecDepth 100000 in
theorem impl_Game_values.calls (k : Nat) (A0 : Option Addr) (c0 : Nat) (l0 : List (List Int)) (r : List Int) (w : World) (hr0 : Kd.C (Kd.slice 87 (Kd.int .i8)) w A0 l0.length l0) (hc0 : l0.length ≤ c0) (h : impl_Game_values.f k l0 = some r) :
    Calls Try.prog 79 #[.slice A0 l0.length c0] w fun e w' => ∃ v0_ : Value, e = .returned (v0_) ∧ Kd.R (Kd.int .u16) 44 w' w.heap.size (fun _ => True) v0_ r ∧ Below w.heap.size w w' := by
  have HR0 := Aside0.mk hr0
  have HC0 := Aside0.mk hc0
  clear hr0 hc0
  have HB := Aside0.mk (Below.refl w.heap.size w)
  have H : (impl_Game_values.l0 k (([] : List Int)) l0 (l0.length : Int) 0) = some r := h
  clear h
  obtain ⟨y253, hy253⟩ : ∃ y_ : List Int, y_ = (([] : List Int)) := ⟨_, rfl⟩
  replace H : (impl_Game_values.l0 k y253 l0 (l0.length : Int) 0) = some r := by first | (rw [hy253]; with_reducible exact H) | (have H2_ := (Option.bind_some _ _).symm.trans H; rw [hy253]; with_reducible exact H2_) | (have H2_ := (Option.bind_some _ _).symm.trans H; with_reducible exact H2_) | with_reducible exact H | (rw [hy253]; exact H) | exact H
  have Ny253 := Aside0.mk hy253
  clear hy253
  have H' := Aside0.mk H
  clear H
  go_enter Try.func79, Try.ntmps79
  go_wp2_with (first | ((with_reducible refine gate_dst (N := 9) rfl ?_); refine Kd.R_lit (Kd.int .u16) _ 44 ?hg (N := 9) ?hd (xs := ([] : List Int)) (inner := []) (ok := fun _ => True) (okp := fun _ => True) ?hr ?hp (fun _ hk => hk) trivial (Below.refl _ _) (Nat.le_refl _) (by simp) ?_; (case hd => rfl); (case hg => rfl); (case hr => first | (go_simp; done) | (go_simp; rfl)); (case hp => exact (Reps.none _ _)); intro v254 w2 ho3 hb hg_ hnew_; clear hg_ hnew_; (first | rw [← Ny253.out] at ho3 | (simp only [Int.reduceToNat] at ho3; rw [← Ny253.out] at ho3)); have n0_ := Aside0.mk (Kd.R_lower ho3 (below_size (by repeat (first | (with_reducible first | exact HB.out | apply below_alloc | apply pw_below_drewN | apply below_drew1) | exact HB.out)))); have n1_ := Aside0.mk (below_step (by repeat (first | (with_reducible first | exact HB.out | apply below_alloc | apply pw_below_drewN | apply below_drew1) | exact HB.out)) hb); clear HB; have HO255 := n0_; have HB := n1_; clear n0_ n1_; clear hb ho3))
  go_loopg [3, 12] k (fun kq v3 v12 w' => ∃ (x3_1 : List Int) (x12_1 : Int), v12 = .int .i64 x12_1 ∧ Aside0 (impl_Game_values.l0 kq x3_1 l0 (l0.length : Int) x12_1 = some r) ∧ Aside0 (kq ≤ k) ∧ Aside0 (Kd.R (Kd.int .u16) 44 w' w.heap.size (fun _ => True) v3 x3_1) ∧ Aside0 (Below w.heap.size w w'))
  case atStart => exact ⟨(y253), (0), (by first | rfl | (simp; done) | (simp [*]; done)), H', ⟨Nat.le_refl _⟩, ⟨by (with_reducible repeat (first | apply Kd.R_alloc | apply Kd.R_drewN | apply Kd.R_drew)); exact HO255.out⟩, ⟨by repeat (first | (with_reducible first | exact HB.out | apply below_alloc | apply pw_below_drewN | apply below_drew1) | exact HB.out)⟩⟩
  case round =>
    clear H'
    try clear p2
    obtain ⟨x3_1, x12_1, rfl, HA, HK1, HO_3, HB⟩ := hrel
    cases gk with
    | zero => exact absurd HA.out (by simp [impl_Game_values.l0])
    | succ k1 =>
      have H := HA.out
      clear HA
      simp only [impl_Game_values.l0] at H
      by_cases c4 : x12_1 < (l0.length : Int)
      · rw [if_pos c4] at H
        have c4b0 : decide (x12_1 < (l0.length : Int)) = true := decide_eq_true c4
        clear c4
        by_cases c5 : 0 ≤ x12_1
        · rw [if_pos c5] at H
          have c5b0 : decide (0 ≤ x12_1) = true := decide_eq_true c5
          clear c5
          by_cases c6 : x12_1 < (l0.length : Int)
          · rw [if_pos c6] at H
            have c6b0 : decide (x12_1 < (l0.length : Int)) = true := decide_eq_true c6
            clear c6
            obtain ⟨y257, hy257⟩ : ∃ y_ : List Int, y_ = (([] : List Int)) := ⟨_, rfl⟩
            replace H : (impl_Game_values.l1 k1 x3_1 y257 l0 (l0.length : Int) x12_1 (rd_L2 l0 x12_1) ((rd_L2 l0 x12_1).length : Int) 0) = some r := by first | (rw [hy257]; with_reducible exact H) | (have H2_ := (Option.bind_some _ _).symm.trans H; rw [hy257]; with_reducible exact H2_) | (have H2_ := (Option.bind_some _ _).symm.trans H; with_reducible exact H2_) | with_reducible exact H | (rw [hy257]; exact H) | exact H
            have Ny257 := Aside0.mk hy257
            clear hy257
            have H' := Aside0.mk H
            clear H
            have p256 : 0 ≤ (x12_1 : Int) := of_decide_eq_true (by first | (with_reducible assumption) | assumption)
            have q256 : x12_1 < (l0.length : Int) := of_decide_eq_true (by first | (with_reducible assumption) | assumption)
            obtain ⟨ad256, A256_0, c256_0, e256, hx256_0, hl256_0, hi256_0⟩ := at_L2 HR0.out x12_1 p256 q256
            cases e256
            replace hx256_0 := (HB.out.cell (World.block_lt_of_cell? w _ hx256_0)).trans hx256_0
            have HR256_0 := Aside0.mk hi256_0
            have HC256_0 := Aside0.mk hl256_0
            clear hi256_0 hl256_0
            replace p256 := eq_true p256
            replace q256 := eq_true q256
            go_wp2_with (first | ((with_reducible refine gate_dst (N := 16) rfl ?_); refine Kd.R_lit (Kd.int .u16) _ 44 ?hg (N := 16) ?hd (xs := ([] : List Int)) (inner := []) (ok := fun _ => True) (okp := fun _ => True) ?hr ?hp (fun _ hk => hk) trivial (Below.refl _ _) (Nat.le_refl _) (by simp) ?_; (case hd => rfl); (case hg => rfl); (case hr => first | (go_simp; done) | (go_simp; rfl)); (case hp => exact (Reps.none _ _)); intro v258 w7 ho8 hb hg_ hnew_; clear hg_ hnew_; (first | rw [← Ny257.out] at ho8 | (simp only [Int.reduceToNat] at ho8; rw [← Ny257.out] at ho8)); have n0_ := Aside0.mk (Kd.R_elder' (by (with_reducible repeat (first | apply Kd.R_alloc | apply Kd.R_drewN | apply Kd.R_drew)); exact HO_3.out) (Kd.R_base ho8) hb); have n1_ := Aside0.mk (Kd.R_lower (Kd.R_new' ho8 (Kd.R_lt (by (with_reducible repeat (first | apply Kd.R_alloc | apply Kd.R_drewN | apply Kd.R_drew)); exact HO_3.out))) (below_size (by repeat (first | (with_reducible first | exact HB.out | apply below_alloc | apply pw_below_drewN | apply below_drew1) | exact HB.out)))); have n2_ := Aside0.mk (below_step (by repeat (first | (with_reducible first | exact HB.out | apply below_alloc | apply pw_below_drewN | apply below_drew1) | exact HB.out)) hb); clear HO_3; clear HB; have HO_3 := n0_; have HO259 := n1_; have HB := n2_; clear n0_ n1_ n2_; clear hb ho8))
            go_loopg [6, 19] k1 (fun kq v6 v19 w' => ∃ (x6_2 : List Int) (x19_2 : Int), v19 = .int .i64 x19_2 ∧ Aside0 (impl_Game_values.l1 kq x3_1 x6_2 l0 (l0.length : Int) x12_1 (rd_L2 l0 x12_1) ((rd_L2 l0 x12_1).length : Int) x19_2 = some r) ∧ Aside0 (kq ≤ k1) ∧ Aside0 (Kd.R (Kd.int .u16) 44 w' w.heap.size (fun k_ => some k_ ≠ (v6 : Value).ownBlock) u3 x3_1) ∧ Aside0 (Kd.R (Kd.int .u16) 44 w' w.heap.size (fun k_ => some k_ ≠ (u3 : Value).ownBlock) v6 x6_2) ∧ Aside0 (Below w.heap.size w w'))
            case atStart => exact ⟨(y257), (0), (by first | rfl | (simp; done) | (simp [*]; done)), H', ⟨Nat.le_refl _⟩, ⟨by (with_reducible repeat (first | apply Kd.R_alloc | apply Kd.R_drewN | apply Kd.R_drew)); exact Kd.R_mono HO_3.out (fun _ hk => hk.2)⟩, ⟨by (with_reducible repeat (first | apply Kd.R_alloc | apply Kd.R_drewN | apply Kd.R_drew)); exact Kd.R_mono HO259.out (fun _ hk => hk.2)⟩, ⟨by repeat (first | (with_reducible first | exact HB.out | apply below_alloc | apply pw_below_drewN | apply below_drew1) | exact HB.out)⟩⟩
            case round =>
              clear H'
              try clear c2
              try clear p2
              try clear q2
              try clear hx2
              try clear c4
              try clear c4b0
              try clear c5
              try clear c5b0
              try clear c6
              try clear c6b0
              try clear c7
              try clear hx256_0
              try clear p2
              try clear p256
              try clear q256
              obtain ⟨x6_2, x19_2, rfl, HA, HK2, HO_3, HO_6, HB⟩ := hrel
              cases gk with
              | zero => exact absurd HA.out (by simp [impl_Game_values.l1])
              | succ k2 =>
                have H := HA.out
                clear HA
                simp only [impl_Game_values.l1] at H
                by_cases c9 : x19_2 < ((rd_L2 l0 x12_1).length : Int)
                · rw [if_pos c9] at H
                  have c9b0 : decide (x19_2 < ((rd_L2 l0 x12_1).length : Int)) = true := decide_eq_true c9
                  clear c9
                  by_cases c10 : 0 ≤ x19_2
                  · rw [if_pos c10] at H
                    have c10b0 : decide (0 ≤ x19_2) = true := decide_eq_true c10
                    clear c10
                    by_cases c11 : x19_2 < ((rd_L2 l0 x12_1).length : Int)
                    · rw [if_pos c11] at H
                      have c11b0 : decide (x19_2 < ((rd_L2 l0 x12_1).length : Int)) = true := decide_eq_true c11
                      clear c11
                      by_cases c12 : 0 ≤ (rd (rd_L2 l0 x12_1) x19_2)
                      · rw [if_pos c12] at H
                        have c12b0 : decide (0 ≤ (rd (rd_L2 l0 x12_1) x19_2)) = true := decide_eq_true c12
                        clear c12
                        by_cases c13 : (rd (rd_L2 l0 x12_1) x19_2) < (x3_1.length : Int)
                        · rw [if_pos c13] at H
                          have c13b0 : decide ((rd (rd_L2 l0 x12_1) x19_2) < (x3_1.length : Int)) = true := decide_eq_true c13
                          clear c13
                          by_cases c14 : x6_2.length < 70368744177664
                          · rw [if_pos c14] at H
                            have LMc14 := Aside0.mk c14
                            clear c14
                            obtain ⟨y262, hy262⟩ : ∃ y_ : List Int, y_ = (x6_2 ++ [rd x3_1 (rd (rd_L2 l0 x12_1) x19_2)]) := ⟨_, rfl⟩
                            replace H : (impl_Game_values.l1 k2 x3_1 y262 l0 (l0.length : Int) x12_1 (rd_L2 l0 x12_1) ((rd_L2 l0 x12_1).length : Int) (wrap64 (x19_2 + 1))) = some r := by first | (rw [hy262]; with_reducible exact H) | (have H2_ := (Option.bind_some _ _).symm.trans H; rw [hy262]; with_reducible exact H2_) | (have H2_ := (Option.bind_some _ _).symm.trans H; with_reducible exact H2_) | with_reducible exact H | (rw [hy262]; exact H) | exact H
                            have Ny262 := Aside0.mk hy262
                            clear hy262
                            have H' := Aside0.mk H
                            clear H
                            have p260 : 0 ≤ (x19_2 : Int) := of_decide_eq_true (by first | (with_reducible assumption) | assumption)
                            have q260 : x19_2 < ((rd_L2 l0 x12_1).length : Int) := of_decide_eq_true (by first | (with_reducible assumption) | assumption)
                            obtain ⟨ad260, e260, hx260_0⟩ := Kd.at_int HR256_0.out x19_2 p260 q260
                            cases e260
                            replace hx260_0 := (HB.out.cell (World.block_lt_of_cell? w _ hx260_0)).trans hx260_0
                            replace p260 := eq_true p260
                            replace q260 := eq_true q260
                            obtain ⟨Ao15, co15, eo15⟩ := Kd.R_slice HO_3.out
                            subst eo15
                            have p261 : 0 ≤ ((rd (rd_L2 l0 x12_1) x19_2) : Int) := of_decide_eq_true (by first | (with_reducible assumption) | assumption)
                            have q261 : (rd (rd_L2 l0 x12_1) x19_2) < (x3_1.length : Int) := of_decide_eq_true (by first | (with_reducible assumption) | assumption)
                            obtain ⟨ad261, e261, hx261_0⟩ := Kd.at_int (Kd.R_reads' HO_3.out).2.2 (rd (rd_L2 l0 x12_1) x19_2) p261 q261
                            cases e261
                            replace p261 := eq_true p261
                            replace q261 := eq_true q261
                            go_wp2_with (first | ((with_reducible refine gate_builtin (b := .append) (xs := #[.tmp 23, .tmp 28]) rfl ?_); at_builtin; refine Kd.R_append (Kd.int .u16) (w0 := w) w.heap.size rfl (.tmp 23) (.tmp 28) 37 44 (.int .u16 0) 2 rfl Try.underlying37 info44 rfl (by decide) (by omega) u6 x6_2 (rd x3_1 (rd (rd_L2 l0 x12_1) x19_2)) [.int .u16 (rd x3_1 (rd (rd_L2 l0 x12_1) x19_2))] (fun k_ => some k_ ≠ (.slice (some ad261) x3_1.length co15 : Value).ownBlock) (fun _ => False) rfl rfl ?aP (fun _ hk => hk.elim) ?aF ?aO ?aB ?aS ?aL ?_; (case aP => exact rfl); (case aB => exact (by repeat (first | (with_reducible first | exact HB.out | apply below_alloc | apply pw_below_drewN | apply below_drew1) | exact HB.out))); (case aF => exact (fun k_ hk => Kd.fresh' (Kd.R_lt (by (with_reducible repeat (first | apply Kd.R_alloc | apply Kd.R_drewN | apply Kd.R_drew)); exact HO_3.out)) k_ hk)); (case aO => exact (by (with_reducible repeat (first | apply Kd.R_alloc | apply Kd.R_drewN | apply Kd.R_drew)); exact HO_6.out)); (case aS => exact (below_size (by repeat (first | (with_reducible first | exact HB.out | apply below_alloc | apply pw_below_drewN | apply below_drew1) | exact HB.out)))); (case aL => have := LMc14.out; omega); intro v263 w16 ho hb hg hat; rw [← Ny262.out] at ho; have n0_ := Aside0.mk (Kd.R_after (ok := (fun _ => True)) (by (with_reducible repeat (first | apply Kd.R_alloc | apply Kd.R_drewN | apply Kd.R_drew)); exact Kd.R_mono HO_3.out (fun _ hk => ⟨trivial, hk⟩)) hg hat); have n1_ := Aside0.mk (hb); have n2_ := Aside0.mk (ho); clear HO_3; clear HB; clear HO_6; have HO_3 := n0_; have HB := n1_; have HO264 := n2_; clear n0_ n1_ n2_; clear ho hb hg hat))
                            go_roundg k2
                            case measure => have := HK1.out; have := HK2.out; omega
                            case rel => exact ⟨(y262), (wrap64 (x19_2 + 1)), (by first | rfl | (simp; done) | (simp [*]; done)), H', ⟨by have := HK1.out; have := HK2.out; omega⟩, ⟨by (with_reducible repeat (first | apply Kd.R_alloc | apply Kd.R_drewN | apply Kd.R_drew)); exact Kd.R_mono HO_3.out (fun _ hk => hk.2)⟩, ⟨by (with_reducible repeat (first | apply Kd.R_alloc | apply Kd.R_drewN | apply Kd.R_drew)); exact HO264.out⟩, ⟨by repeat (first | (with_reducible first | exact HB.out | apply below_alloc | apply pw_below_drewN | apply below_drew1) | exact HB.out)⟩⟩
                          · rw [if_neg c14] at H
                            exact absurd H (by simp)
                        · rw [if_neg c13] at H
                          exact absurd H (by simp)
                      · rw [if_neg c12] at H
                        exact absurd H (by simp)
                    · rw [if_neg c11] at H
                      exact absurd H (by simp)
                  · rw [if_neg c10] at H
                    exact absurd H (by simp)
                · rw [if_neg c9] at H
                  have c9b0 : decide (x19_2 < ((rd_L2 l0 x12_1).length : Int)) = false := decide_eq_false c9
                  clear c9
                  replace H := Option.bind_eq_some_iff.mp H
                  obtain ⟨t265, A170, H⟩ := H
                  replace H : (if x3_1.length < 70368744177664 then (impl_Game_values.l0 k2 (x3_1 ++ [IntKind.u16.wrap (t265)]) l0 (l0.length : Int) (wrap64 (x12_1 + 1))) else (none)) = some r := H
                  have A17 := Aside0.mk A170
                  clear A170
                  by_cases c18 : x3_1.length < 70368744177664
                  · rw [if_pos c18] at H
                    have LMc18 := Aside0.mk c18
                    clear c18
                    obtain ⟨y266, hy266⟩ : ∃ y_ : List Int, y_ = (x3_1 ++ [IntKind.u16.wrap (t265)]) := ⟨_, rfl⟩
                    replace H : (impl_Game_values.l0 k2 y266 l0 (l0.length : Int) (wrap64 (x12_1 + 1))) = some r := by first | (rw [hy266]; with_reducible exact H) | (have H2_ := (Option.bind_some _ _).symm.trans H; rw [hy266]; with_reducible exact H2_) | (have H2_ := (Option.bind_some _ _).symm.trans H; with_reducible exact H2_) | with_reducible exact H | (rw [hy266]; exact H) | exact H
                    have Ny266 := Aside0.mk hy266
                    clear hy266
                    have H' := Aside0.mk H
                    clear H
                    obtain ⟨Ao19, co19, eo19⟩ := Kd.R_slice HO_6.out
                    subst eo19
                    go_wp2_with (first | ((with_reducible refine gate_callee (f := 87) rfl ?_); refine goesL_ (some 33) rfl rfl Try.func87 (by kernel_rfl) rfl #[.slice Ao19 x6_2.length co19] rfl (by (try simp only [List.map_toArray, List.map_cons, List.map_nil]); first | done | rfl | (simp only [List.length_drop, List.length_take]; rfl)) ?_; (with_reducible refine (impl_mex.calls k2 _ _ x6_2 t265 _ ?side1 ?side2 A17.out).mono ?_); (case side1 => repeat (first | exact (Kd.R_reads' HO_6.out).2.2 | (with_reducible refine Kd.C_alloc ?_ _) | (with_reducible refine Kd.C_drewN ?_ _) | (with_reducible refine Kd.C_drew ?_))); (case side2 => exact (Kd.R_reads' HO_6.out).2.1); rintro e w20 ⟨rfl, hb⟩; refine ⟨_, rfl, ?_⟩; have n0_ := Aside0.mk (Kd.R_below (by (with_reducible repeat (first | apply Kd.R_alloc | apply Kd.R_drewN | apply Kd.R_drew)); exact HO_3.out) hb); have n1_ := Aside0.mk (Kd.R_below (by (with_reducible repeat (first | apply Kd.R_alloc | apply Kd.R_drewN | apply Kd.R_drew)); exact HO_6.out) hb); have n2_ := Aside0.mk (below_step (by repeat (first | (with_reducible first | exact HB.out | apply below_alloc | apply pw_below_drewN | apply below_drew1) | exact HB.out)) hb); clear HO_3; clear HO_6; clear HB; have HO_3 := n0_; have HO_6 := n1_; have HB := n2_; clear n0_ n1_ n2_; (try clear hb); (try clear hb2); (try clear hk); (try clear hi)) | ((with_reducible refine gate_builtin (b := .append) (xs := #[.tmp 31, .tmp 35]) rfl ?_); at_builtin; refine Kd.R_append (Kd.int .u16) (w0 := w) w.heap.size rfl (.tmp 31) (.tmp 35) 37 44 (.int .u16 0) 2 rfl Try.underlying37 info44 rfl (by decide) (by omega) u3 x3_1 (IntKind.u16.wrap (t265)) [.int .u16 (IntKind.u16.wrap (t265))] (fun k_ => some k_ ≠ (.slice Ao19 x6_2.length co19 : Value).ownBlock) (fun _ => False) rfl rfl ?aP (fun _ hk => hk.elim) ?aF ?aO ?aB ?aS ?aL ?_; (case aP => exact rfl); (case aB => exact (by repeat (first | (with_reducible first | exact HB.out | apply below_alloc | apply pw_below_drewN | apply below_drew1) | exact HB.out))); (case aF => exact (fun k_ hk => Kd.fresh' (Kd.R_lt (by (with_reducible repeat (first | apply Kd.R_alloc | apply Kd.R_drewN | apply Kd.R_drew)); exact HO_6.out)) k_ hk)); (case aO => exact (by (with_reducible repeat (first | apply Kd.R_alloc | apply Kd.R_drewN | apply Kd.R_drew)); exact HO_3.out)); (case aS => exact (below_size (by repeat (first | (with_reducible first | exact HB.out | apply below_alloc | apply pw_below_drewN | apply below_drew1) | exact HB.out)))); (case aL => have := LMc18.out; omega); intro v267 w21 ho hb hg hat; rw [← Ny266.out] at ho; have n0_ := Aside0.mk (Kd.R_after (ok := (fun _ => True)) (by (with_reducible repeat (first | apply Kd.R_alloc | apply Kd.R_drewN | apply Kd.R_drew)); exact Kd.R_mono HO_6.out (fun _ hk => ⟨trivial, hk⟩)) hg hat); have n1_ := Aside0.mk (hb); have n2_ := Aside0.mk (ho); clear HO_6; clear HB; clear HO_3; have HO_6 := n0_; have HB := n1_; have HO268 := n2_; clear n0_ n1_ n2_; clear ho hb hg hat))
                    go_roundg k2
                    case measure => have := HK1.out; have := HK2.out; omega
                    case rel => exact ⟨(y266), (wrap64 (x12_1 + 1)), (by first | rfl | (simp; done) | (simp [*]; done)), H', ⟨by have := HK1.out; have := HK2.out; omega⟩, ⟨by (with_reducible repeat (first | apply Kd.R_alloc | apply Kd.R_drewN | apply Kd.R_drew)); exact Kd.R_mono HO268.out (fun _ hk => trivial)⟩, ⟨by repeat (first | (with_reducible first | exact HB.out | apply below_alloc | apply pw_below_drewN | apply below_drew1) | exact HB.out)⟩⟩
                  · rw [if_neg c18] at H
                    exact absurd H (by simp)
          · rw [if_neg c6] at H
            exact absurd H (by simp)
        · rw [if_neg c5] at H
          exact absurd H (by simp)
      · rw [if_neg c4] at H
        have c4b0 : decide (x12_1 < (l0.length : Int)) = false := decide_eq_false c4
        clear c4
        obtain rfl := Option.some.inj H
        go_wp2
        go_ret
        exact ⟨_, by first | rfl | (simp [errW_none, errW_some] <;> rfl) | (simp [*, errW_none, errW_some] <;> rfl), by (with_reducible repeat (first | apply Kd.R_alloc | apply Kd.R_drewN | apply Kd.R_drew)); exact HO_3.out, by repeat (first | (with_reducible first | exact HB.out | apply below_alloc | apply pw_below_drewN | apply below_drew1) | exact HB.out)⟩

/-! ### impl_ValuesOf: function 40 -/
def impl_ValuesOf.f (k : Nat) (l0 : List (List Int)) : Option (List Int × Int) := (impl_ValidGame.f k l0).bind fun t269 => (if t269 = true then ((impl_Game_values.f k l0).bind fun t270 => (some (t270, 0))) else (some (([] : List Int), 1)))
theorem impl_ValuesOf.mono : ∀ a0 k, LeO (impl_ValuesOf.f k a0) (impl_ValuesOf.f (k + 1) a0) := by
  intro a0 k
  unfold impl_ValuesOf.f
  repeat' first
      | (with_reducible exact impl_Game_values.mono _ _)
      | (with_reducible exact impl_ValidGame.mono _ _)
      | (with_reducible exact LeO.refl _)
      | (with_reducible exact LeO.none _)
      | (with_reducible refine LeO.ite ?_ ?_)
      | (with_reducible refine LeO.bind ?_ (fun _ => ?_))
      | exact impl_Game_values.mono _ _
      | exact impl_ValidGame.mono _ _
      | exact LeO.none _
      | refine LeO.ite ?_ ?_
      | refine LeO.bind ?_ (fun _ => ?_)
set_option maxHeartbeats 8000000 in
set_option maxRecDepth 100000 in
theorem impl_ValuesOf.calls (k : Nat) (A0 : Option Addr) (c0 : Nat) (l0 : List (List Int)) (r1 : List Int) (r2 : Int) (w : World) (hr0 : Kd.C (Kd.slice 87 (Kd.int .i8)) w A0 l0.length l0) (hc0 : l0.length ≤ c0) (h : impl_ValuesOf.f k l0 = some (r1, r2)) :
    Calls Try.prog 40 #[.slice A0 l0.length c0] w fun e w' => ∃ v0_ : Value, e = .returned (.tuple #[v0_, .int .i64 r2]) ∧ Kd.R (Kd.int .u16) 44 w' w.heap.size (fun _ => True) v0_ r1 ∧ Below w.heap.size w w' := by
  have HR0 := Aside0.mk hr0
  have HC0 := Aside0.mk hc0
  clear hr0 hc0
  have HB := Aside0.mk (Below.refl w.heap.size w)
  have H : ((impl_ValidGame.f k l0).bind fun t269 => (if t269 = true then ((impl_Game_values.f k l0).bind fun t270 => (some (t270, 0))) else (some (([] : List Int), 1)))) = some (r1, r2) := h
  clear h
  replace H := Option.bind_eq_some_iff.mp H
  obtain ⟨t269, A20, H⟩ := H
  replace H : (if t269 = true then ((impl_Game_values.f k l0).bind fun t270 => (some (t270, 0))) else (some (([] : List Int), 1))) = some (r1, r2) := H
  have A2 := Aside0.mk A20
  clear A20
  by_cases c3 : t269 = true
  · subst c3
    have H1 : ((impl_Game_values.f k l0).bind fun t270 => (some (t270, 0))) = some (r1, r2) := by rw [if_pos rfl] at H; exact H
    clear H
    have H := H1
    clear H1
    replace H := Option.bind_eq_some_iff.mp H
    obtain ⟨t270, A40, H⟩ := H
    replace H : (some (t270, 0)) = some (r1, r2) := H
    have A4 := Aside0.mk A40
    clear A40
    simp only [Option.some.injEq, Prod.mk.injEq] at H
    obtain ⟨rfl, rfl⟩ := H
    go_enter Try.func40, Try.ntmps40
    go_wp2_with (first | ((with_reducible refine gate_callee (f := 39) rfl ?_); refine goesL_ (some 5) rfl rfl Try.func39 (by kernel_rfl) rfl #[.slice A0 l0.length c0] rfl (by (try simp only [List.map_toArray, List.map_cons, List.map_nil]); first | done | rfl | (simp only [List.length_drop, List.length_take]; rfl)) ?_; (with_reducible refine (impl_ValidGame.calls k _ _ l0 true _ ?side1 ?side2 A2.out).mono ?_); (case side1 => repeat (first | exact HR0.out | (with_reducible refine Kd.C_alloc ?_ _) | (with_reducible refine Kd.C_drewN ?_ _) | (with_reducible refine Kd.C_drew ?_))); (case side2 => exact HC0.out); rintro e w' ⟨rfl, ⟨nd, rfl⟩⟩; refine ⟨_, rfl, ?_⟩) | ((with_reducible refine gate_callee (f := 79) rfl ?_); refine goesL_ (some 8) rfl rfl Try.func79 (by kernel_rfl) rfl #[.slice A0 l0.length c0] rfl (by (try simp only [List.map_toArray, List.map_cons, List.map_nil]); first | done | rfl | (simp only [List.length_drop, List.length_take]; rfl)) ?_; (with_reducible refine (impl_Game_values.calls k _ _ l0 t270 _ ?side1 ?side2 A4.out).mono ?_); (case side1 => repeat (first | exact HR0.out | (with_reducible refine Kd.C_alloc ?_ _) | (with_reducible refine Kd.C_drewN ?_ _) | (with_reducible refine Kd.C_drew ?_))); (case side2 => exact HC0.out); rintro e w5 ⟨v271, rfl, ho0, hb⟩; refine ⟨_, rfl, ?_⟩; have n0_ := Aside0.mk (Kd.R_lower ho0 (below_size (by repeat (first | (with_reducible first | exact HB.out | apply below_alloc | apply pw_below_drewN | apply below_drew1) | exact HB.out)))); have n1_ := Aside0.mk (below_step (by repeat (first | (with_reducible first | exact HB.out | apply below_alloc | apply pw_below_drewN | apply below_drew1) | exact HB.out)) hb); clear HB; have HO272 := n0_; have HB := n1_; clear n0_ n1_; (try clear hb); (try clear hb2); (try clear hk); (try clear hi); (try clear ho0)))
    go_ret2
    exact ⟨_, by first | rfl | (simp [errW_none, errW_some] <;> rfl) | (simp [*, errW_none, errW_some] <;> rfl), by (with_reducible repeat (first | apply Kd.R_alloc | apply Kd.R_drewN | apply Kd.R_drew)); exact HO272.out, by repeat (first | (with_reducible first | exact HB.out | apply below_alloc | apply pw_below_drewN | apply below_drew1) | exact HB.out)⟩
  · replace c3 := Bool.eq_false_iff.mpr c3
    subst c3
    have H1 : (some (([] : List Int), 1)) = some (r1, r2) := by rw [if_neg (show ¬ (false = true) by decide)] at H; exact H
    clear H
    have H := H1
    clear H1
    simp only [Option.some.injEq, Prod.mk.injEq] at H
    obtain ⟨rfl, rfl⟩ := H
    go_enter Try.func40, Try.ntmps40
    go_wp2_with (first | ((with_reducible refine gate_callee (f := 39) rfl ?_); refine goesL_ (some 5) rfl rfl Try.func39 (by kernel_rfl) rfl #[.slice A0 l0.length c0] rfl (by (try simp only [List.map_toArray, List.map_cons, List.map_nil]); first | done | rfl | (simp only [List.length_drop, List.length_take]; rfl)) ?_; (with_reducible refine (impl_ValidGame.calls k _ _ l0 false _ ?side1 ?side2 A2.out).mono ?_); (case side1 => repeat (first | exact HR0.out | (with_reducible refine Kd.C_alloc ?_ _) | (with_reducible refine Kd.C_drewN ?_ _) | (with_reducible refine Kd.C_drew ?_))); (case side2 => exact HC0.out); rintro e w' ⟨rfl, ⟨nd, rfl⟩⟩; refine ⟨_, rfl, ?_⟩))
    go_ret2
    exact ⟨_, by first | rfl | (simp [errW_none, errW_some] <;> rfl) | (simp [*, errW_none, errW_some] <;> rfl), by first | exact Kd.R_nil _ _ _ _ _ | exact Kd.N_nil _ _ _ _ _ | exact Kd.V_nil _ _ _ _ _ | exact Kd.Q_nil _ _ _ _ _ | exact Kd.S_nil _ _ _ _ _, by repeat (first | (with_reducible first | exact HB.out | apply below_alloc | apply pw_below_drewN | apply below_drew1) | exact HB.out)⟩

/-! ### spec_P6Pick: function 41 -/
def spec_P6Pick.f (l0 : List Int) (a1 : Int) : Option (Int) := (spec_l00From.f l0).bind fun bt273 => ((spec_l00Src_pick.f bt273.1 bt273.2.1 bt273.2.2 a1).bind fun bt277 => (some bt277.1))
set_option maxHeartbeats 8000000 in
set_option maxRecDepth 100000 in
theorem spec_P6Pick.calls (A0 : Option Addr) (c0 : Nat) (l0 : List Int) (a1 : Int) (r : Int) (w : World) (hr0 : Kd.C (Kd.int .u8) w A0 l0.length l0) (hc0 : l0.length ≤ c0) (h : spec_P6Pick.f l0 a1 = some r) :
    Calls Try.prog 41 #[.slice A0 l0.length c0, .int .i64 a1] w fun e w' => e = .returned (.int .i64 r) ∧ Below w.heap.size w w' := by
  have HR0 := Aside0.mk hr0
  have HC0 := Aside0.mk hc0
  clear hr0 hc0
  have HB := Aside0.mk (Below.refl w.heap.size w)
  have H : ((spec_l00From.f l0).bind fun bt273 => ((spec_l00Src_pick.f bt273.1 bt273.2.1 bt273.2.2 a1).bind fun bt277 => (some bt277.1))) = some r := h
  clear h
  replace H := Option.bind_eq_some_iff.mp H
  obtain ⟨⟨t273, t274, t275⟩, A30, H⟩ := H
  replace H : ((spec_l00Src_pick.f t273 t274 t275 a1).bind fun bt277 => (some bt277.1)) = some r := H
  have A3 := Aside0.mk A30
  clear A30
  replace H := Option.bind_eq_some_iff.mp H
  obtain ⟨⟨t277, t278, t279⟩, A40, H⟩ := H
  replace H : (some t277) = some r := H
  have A4 := Aside0.mk A40
  clear A40
  obtain rfl := Option.some.inj H
  go_enter Try.func41, Try.ntmps41
  go_wp2_with (first | ((with_reducible refine gate_callee (f := 67) rfl ?_); refine goesL_ (some 6) rfl rfl Try.func67 (by kernel_rfl) rfl #[.slice A0 l0.length c0] rfl (by (try simp only [List.map_toArray, List.map_cons, List.map_nil]); first | done | rfl | (simp only [List.length_drop, List.length_take]; rfl)) ?_; (with_reducible refine (spec_l00From.calls _ _ l0 t273 t274 t275 w _ ?side1 ?side2 ?side3 A3.out).mono ?_); (case side1 => repeat (first | (with_reducible first | exact HB.out | apply below_alloc | apply pw_below_drewN | apply below_drew1) | exact HB.out)); (case side2 => exact HR0.out); (case side3 => exact HC0.out); rintro e w5 ⟨g276, rfl, hi, hb, hb2⟩; refine ⟨_, rfl, ?_⟩; have n0_ := Aside0.mk (hb); have n1_ := Aside0.mk (hi); clear HB; have HB := n0_; have HI276 := n1_; clear n0_ n1_; (try clear hb); (try clear hb2); (try clear hk); (try clear hi)) | ((with_reducible refine gate_callee (f := 68) rfl ?_); refine goesL_ (some 8) rfl rfl Try.func68 (by kernel_rfl) rfl #[.pointer (some ⟨g276, 0, none⟩), .int .i64 a1] rfl (by (try simp only [List.map_toArray, List.map_cons, List.map_nil]); first | done | rfl | (simp only [List.length_drop, List.length_take]; rfl)) ?_; (with_reducible refine (spec_l00Src_pick.calls g276 t273 t274 t275 a1 t277 t278 t279 w _ ?side1 ?side2 A4.out).mono ?_); (case side1 => repeat (first | (with_reducible first | exact HI276.out | apply IsS99.alloc | apply IsS99.drewN | apply IsS99.drew | apply IsS99.set_1 | apply IsS99.set_2) | exact HI276.out)); (case side2 => repeat (first | (with_reducible first | exact HB.out | apply below_alloc | apply pw_below_drewN | apply below_drew1 | refine below_set ?_ (IsS99.ge HI276.out)) | exact HB.out)); rintro e w6 ⟨rfl, hi, hb, hk⟩; refine ⟨_, rfl, ?_⟩; have n0_ := Aside0.mk (hb); have n1_ := Aside0.mk (hi); clear HB; clear HI276; have HB := n0_; have HI276 := n1_; clear n0_ n1_; (try clear hb); (try clear hb2); (try clear hk); (try clear hi)))
  go_ret
  exact ⟨by first | rfl | (simp [errW_none, errW_some] <;> rfl) | (simp [*, errW_none, errW_some] <;> rfl), by repeat (first | (with_reducible first | exact HB.out | apply below_alloc | apply pw_below_drewN | apply below_drew1 | refine below_set ?_ (IsS99.ge HI276.out)) | exact HB.out)⟩

/-! ### impl_HeapGame: function 42 -/
mutual
def impl_HeapGame.l0 : Nat → List (List Int) → Int → Int → Option ((List (List Int)) × Int)
  | 0, _, _, _ => none
  | k + 1, x4, x14, x15 => if x15 < x14 then (impl_HeapGame.l1 k x4 (([] : List Int)) x14 x15 x15 0) else (some (x4, 0))
def impl_HeapGame.l1 : Nat → List (List Int) → List Int → Int → Int → Int → Int → Option ((List (List Int)) × Int)
  | 0, _, _, _, _, _, _ => none
  | k + 1, x4, x6, x14, x15, x19, x20 => if x20 < x19 then (if x6.length < 140737488355328 then (impl_HeapGame.l1 k x4 (x6 ++ [x20]) x14 x15 x19 (IntKind.i8.wrap (x20 + 1))) else (none)) else (if x4.length < 5864062014805 then (impl_HeapGame.l0 k (x4 ++ [x6]) x14 (IntKind.i8.wrap (x15 + 1))) else (none))
end
def impl_HeapGame.f (k : Nat) (a0 : Int) : Option ((List (List Int)) × Int) := (impl_within.f a0 0 59).bind fun t280 => (if t280 = true then (impl_HeapGame.l0 k (([] : List (List Int))) (IntKind.i8.wrap (wrap64 (a0 + 1))) 0) else (some (([] : List (List Int)), 2)))
theorem impl_HeapGame.mono_l : ∀ k, (∀ y0 y1 y2, LeO (impl_HeapGame.l0 k y0 y1 y2) (impl_HeapGame.l0 (k + 1) y0 y1 y2)) ∧ (∀ y0 y1 y2 y3 y4 y5, LeO (impl_HeapGame.l1 k y0 y1 y2 y3 y4 y5) (impl_HeapGame.l1 (k + 1) y0 y1 y2 y3 y4 y5))
  | 0 => ⟨fun _ _ _ r h => by simp [impl_HeapGame.l0] at h, fun _ _ _ _ _ _ r h => by simp [impl_HeapGame.l1] at h⟩
  | k + 1 => by
    obtain ⟨ih0, ih1⟩ := impl_HeapGame.mono_l k
    refine ⟨?_, ?_⟩
    · intro y0 y1 y2
      unfold impl_HeapGame.l0
      repeat' first
      | (with_reducible exact ih0 _ _ _)
      | (with_reducible exact ih1 _ _ _ _ _ _)
      | (with_reducible exact LeO.refl _)
      | (with_reducible exact LeO.none _)
      | (with_reducible refine LeO.ite ?_ ?_)
      | (with_reducible refine LeO.bind ?_ (fun _ => ?_))
      | exact ih0 _ _ _
      | exact ih1 _ _ _ _ _ _
      | exact LeO.none _
      | refine LeO.ite ?_ ?_
      | refine LeO.bind ?_ (fun _ => ?_)
    · intro y0 y1 y2 y3 y4 y5
      unfold impl_HeapGame.l1
      repeat' first
      | (with_reducible exact ih0 _ _ _)
      | (with_reducible exact ih1 _ _ _ _ _ _)
      | (with_reducible exact LeO.refl _)
      | (with_reducible exact LeO.none _)
      | (with_reducible refine LeO.ite ?_ ?_)
      | (with_reducible refine LeO.bind ?_ (fun _ => ?_))
      | exact ih0 _ _ _
      | exact ih1 _ _ _ _ _ _
      | exact LeO.none _
      | refine LeO.ite ?_ ?_
      | refine LeO.bind ?_ (fun _ => ?_)
theorem impl_HeapGame.mono : ∀ a0 k, LeO (impl_HeapGame.f k a0) (impl_HeapGame.f (k + 1) a0) := by
  intro a0 k
  obtain ⟨ih0, ih1⟩ := impl_HeapGame.mono_l k
  unfold impl_HeapGame.f
  repeat' first
      | (with_reducible exact ih0 _ _ _)
      | (with_reducible exact ih1 _ _ _ _ _ _)
      | (with_reducible exact LeO.refl _)
      | (with_reducible exact LeO.none _)
      | (with_reducible refine LeO.ite ?_ ?_)
      | (with_reducible refine LeO.bind ?_ (fun _ => ?_))
      | exact ih0 _ _ _
      | exact ih1 _ _ _ _ _ _
      | exact LeO.none _
      | refine LeO.ite ?_ ?_
      | refine LeO.bind ?_ (fun _ => ?_)
set_option maxHeartbeats 8000000 in
set_option maxRecDepth 100000 in
theorem impl_HeapGame.calls (k : Nat) (a0 : Int) (r1 : List (List Int)) (r2 : Int) (w : World) (h : impl_HeapGame.f k a0 = some (r1, r2)) :
    Calls Try.prog 42 #[.int .i64 a0] w fun e w' => ∃ v0_ : Value, e = .returned (.tuple #[v0_, .int .i64 r2]) ∧ Kd.S (Kd.slice 87 (Kd.int .i8)) 86 w' w.heap.size (fun _ => True) v0_ r1 ∧ Below w.heap.size w w' := by
  have HB := Aside0.mk (Below.refl w.heap.size w)
  have H : ((impl_within.f a0 0 59).bind fun t280 => (if t280 = true then (impl_HeapGame.l0 k (([] : List (List Int))) (IntKind.i8.wrap (wrap64 (a0 + 1))) 0) else (some (([] : List (List Int)), 2)))) = some (r1, r2) := h
  clear h
  replace H := Option.bind_eq_some_iff.mp H
  obtain ⟨t280, A20, H⟩ := H
  replace H : (if t280 = true then (impl_HeapGame.l0 k (([] : List (List Int))) (IntKind.i8.wrap (wrap64 (a0 + 1))) 0) else (some (([] : List (List Int)), 2))) = some (r1, r2) := H
  have A2 := Aside0.mk A20
  clear A20
  by_cases c3 : t280 = true
  · subst c3
    have H1 : (impl_HeapGame.l0 k (([] : List (List Int))) (IntKind.i8.wrap (wrap64 (a0 + 1))) 0) = some (r1, r2) := by rw [if_pos rfl] at H; exact H
    clear H
    have H := H1
    clear H1
    obtain ⟨y281, hy281⟩ : ∃ y_ : List (List Int), y_ = (([] : List (List Int))) := ⟨_, rfl⟩
    replace H : (impl_HeapGame.l0 k y281 (IntKind.i8.wrap (wrap64 (a0 + 1))) 0) = some (r1, r2) := by first | (rw [hy281]; with_reducible exact H) | (have H2_ := (Option.bind_some _ _).symm.trans H; rw [hy281]; with_reducible exact H2_) | (have H2_ := (Option.bind_some _ _).symm.trans H; with_reducible exact H2_) | with_reducible exact H | (rw [hy281]; exact H) | exact H
    have Ny281 := Aside0.mk hy281
    clear hy281
    have H' := Aside0.mk H
    clear H
    go_enter Try.func42, Try.ntmps42
    go_wp2_with (first | ((with_reducible refine gate_callee (f := 62) rfl ?_); refine goesL_ (some 9) rfl rfl Try.func62 (by kernel_rfl) rfl #[.int .i64 a0, .int .i64 0, .int .i64 59] rfl (by (try simp only [List.map_toArray, List.map_cons, List.map_nil]); first | done | rfl | (simp only [List.length_drop, List.length_take]; rfl)) ?_; (with_reducible refine (impl_within.calls a0 0 59 true _ A2.out).mono ?_); rintro e w' ⟨rfl, ⟨nd, rfl⟩⟩; refine ⟨_, rfl, ?_⟩) | ((with_reducible refine gate_dst (N := 11) rfl ?_); refine Kd.S_lit (Kd.slice 87 (Kd.int .i8)) _ 86 ?hg (N := 11) ?hd (xs := ([] : List (List Int))) (inner := []) (ok := fun _ => True) (okp := fun _ => True) ?hr ?hp (fun _ hk => hk) trivial (Below.refl _ _) (Nat.le_refl _) (by simp) ?_; (case hd => rfl); (case hg => rfl); (case hr => first | (go_simp; done) | (go_simp; rfl)); (case hp => exact (Reps.none _ _)); intro v282 w4 ho5 hb hg_ hnew_; clear hg_ hnew_; (first | rw [← Ny281.out] at ho5 | (simp only [Int.reduceToNat] at ho5; rw [← Ny281.out] at ho5)); have n0_ := Aside0.mk (Kd.S_lower ho5 (below_size (by repeat (first | (with_reducible first | exact HB.out | apply below_alloc | apply pw_below_drewN | apply below_drew1) | exact HB.out)))); have n1_ := Aside0.mk (below_step (by repeat (first | (with_reducible first | exact HB.out | apply below_alloc | apply pw_below_drewN | apply below_drew1) | exact HB.out)) hb); clear HB; have HO283 := n0_; have HB := n1_; clear n0_ n1_; clear hb ho5))
    go_loopg [4, 15] k (fun kq v4 v15 w' => ∃ (x4_1 : List (List Int)) (x15_1 : Int), v15 = .int .i8 x15_1 ∧ Aside0 (impl_HeapGame.l0 kq x4_1 (IntKind.i8.wrap (wrap64 (a0 + 1))) x15_1 = some (r1, r2)) ∧ Aside0 (kq ≤ k) ∧ Aside0 (Kd.S (Kd.slice 87 (Kd.int .i8)) 86 w' w.heap.size (fun _ => True) v4 x4_1) ∧ Aside0 (Below w.heap.size w w'))
    case atStart => exact ⟨(y281), (0), (by first | rfl | (simp; done) | (simp [*]; done)), H', ⟨Nat.le_refl _⟩, ⟨by (with_reducible repeat (first | apply Kd.S_alloc | apply Kd.S_drewN | apply Kd.S_drew)); exact HO283.out⟩, ⟨by repeat (first | (with_reducible first | exact HB.out | apply below_alloc | apply pw_below_drewN | apply below_drew1) | exact HB.out)⟩⟩
    case round =>
      clear H'
      try clear p2
      try clear c3
      try clear c4
      obtain ⟨x4_1, x15_1, rfl, HA, HK1, HO_4, HB⟩ := hrel
      cases gk with
      | zero => exact absurd HA.out (by simp [impl_HeapGame.l0])
      | succ k1 =>
        have H := HA.out
        clear HA
        simp only [impl_HeapGame.l0] at H
        by_cases c6 : x15_1 < (IntKind.i8.wrap (wrap64 (a0 + 1)))
        · rw [if_pos c6] at H
          have c6b0 : decide (x15_1 < (IntKind.i8.wrap (wrap64 (a0 + 1)))) = true := decide_eq_true c6
          clear c6
          obtain ⟨y284, hy284⟩ : ∃ y_ : List Int, y_ = (([] : List Int)) := ⟨_, rfl⟩
          replace H : (impl_HeapGame.l1 k1 x4_1 y284 (IntKind.i8.wrap (wrap64 (a0 + 1))) x15_1 x15_1 0) = some (r1, r2) := by first | (rw [hy284]; with_reducible exact H) | (have H2_ := (Option.bind_some _ _).symm.trans H; rw [hy284]; with_reducible exact H2_) | (have H2_ := (Option.bind_some _ _).symm.trans H; with_reducible exact H2_) | with_reducible exact H | (rw [hy284]; exact H) | exact H
          have Ny284 := Aside0.mk hy284
          clear hy284
          have H' := Aside0.mk H
          clear H
          go_wp2_with (first | ((with_reducible refine gate_dst (N := 18) rfl ?_); refine Kd.R_lit (Kd.int .i8) _ 87 ?hg (N := 18) ?hd (xs := ([] : List Int)) (inner := []) (ok := fun _ => True) (okp := fun _ => True) ?hr ?hp (fun _ hk => hk) trivial (Below.refl _ _) (Nat.le_refl _) (by simp) ?_; (case hd => rfl); (case hg => rfl); (case hr => first | (go_simp; done) | (go_simp; rfl)); (case hp => exact (Reps.none _ _)); intro v285 w7 ho8 hb hg_ hnew_; clear hg_ hnew_; (first | rw [← Ny284.out] at ho8 | (simp only [Int.reduceToNat] at ho8; rw [← Ny284.out] at ho8)); have n0_ := Aside0.mk (Kd.S_elder' (by (with_reducible repeat (first | apply Kd.S_alloc | apply Kd.S_drewN | apply Kd.S_drew)); exact HO_4.out) (Kd.R_base ho8) hb); have n1_ := Aside0.mk (Kd.R_lower ho8 (below_size (by repeat (first | (with_reducible first | exact HB.out | apply below_alloc | apply pw_below_drewN | apply below_drew1) | exact HB.out)))); have n2_ := Aside0.mk (below_step (by repeat (first | (with_reducible first | exact HB.out | apply below_alloc | apply pw_below_drewN | apply below_drew1) | exact HB.out)) hb); clear HO_4; clear HB; have HO_4 := n0_; have HO286 := n1_; have HB := n2_; clear n0_ n1_ n2_; clear hb ho8))
          go_loopg [6, 20] k1 (fun kq v6 v20 w' => ∃ (x6_2 : List Int) (x20_2 : Int), v20 = .int .i8 x20_2 ∧ Aside0 (impl_HeapGame.l1 kq x4_1 x6_2 (IntKind.i8.wrap (wrap64 (a0 + 1))) x15_1 x15_1 x20_2 = some (r1, r2)) ∧ Aside0 (kq ≤ k1) ∧ Aside0 (Kd.S (Kd.slice 87 (Kd.int .i8)) 86 w' w.heap.size (fun k_ => some k_ ≠ (v6 : Value).ownBlock) u4 x4_1) ∧ Aside0 (Kd.R (Kd.int .i8) 87 w' w.heap.size (fun _ => True) v6 x6_2) ∧ Aside0 (Below w.heap.size w w'))
          case atStart => exact ⟨(y284), (0), (by first | rfl | (simp; done) | (simp [*]; done)), H', ⟨Nat.le_refl _⟩, ⟨by (with_reducible repeat (first | apply Kd.S_alloc | apply Kd.S_drewN | apply Kd.S_drew)); exact Kd.S_mono HO_4.out (fun _ hk => hk.2)⟩, ⟨by (with_reducible repeat (first | apply Kd.R_alloc | apply Kd.R_drewN | apply Kd.R_drew)); exact HO286.out⟩, ⟨by repeat (first | (with_reducible first | exact HB.out | apply below_alloc | apply pw_below_drewN | apply below_drew1) | exact HB.out)⟩⟩
          case round =>
            clear H'
            try clear p2
            try clear c3
            try clear c4
            try clear c6
            try clear c6b0
            try clear p6
            try clear p2
            obtain ⟨x6_2, x20_2, rfl, HA, HK2, HO_4, HO_6, HB⟩ := hrel
            cases gk with
            | zero => exact absurd HA.out (by simp [impl_HeapGame.l1])
            | succ k2 =>
              have H := HA.out
              clear HA
              simp only [impl_HeapGame.l1] at H
              by_cases c9 : x20_2 < x15_1
              · rw [if_pos c9] at H
                have c9b0 : decide (x20_2 < x15_1) = true := decide_eq_true c9
                clear c9
                by_cases c10 : x6_2.length < 140737488355328
                · rw [if_pos c10] at H
                  have LMc10 := Aside0.mk c10
                  clear c10
                  obtain ⟨y287, hy287⟩ : ∃ y_ : List Int, y_ = (x6_2 ++ [x20_2]) := ⟨_, rfl⟩
                  replace H : (impl_HeapGame.l1 k2 x4_1 y287 (IntKind.i8.wrap (wrap64 (a0 + 1))) x15_1 x15_1 (IntKind.i8.wrap (x20_2 + 1))) = some (r1, r2) := by first | (rw [hy287]; with_reducible exact H) | (have H2_ := (Option.bind_some _ _).symm.trans H; rw [hy287]; with_reducible exact H2_) | (have H2_ := (Option.bind_some _ _).symm.trans H; with_reducible exact H2_) | with_reducible exact H | (rw [hy287]; exact H) | exact H
                  have Ny287 := Aside0.mk hy287
                  clear hy287
                  have H' := Aside0.mk H
                  clear H
                  go_wp2_with (first | ((with_reducible refine gate_builtin (b := .append) (xs := #[.tmp 23, .tmp 25]) rfl ?_); at_builtin; refine Kd.R_append (Kd.int .i8) (w0 := w) w.heap.size rfl (.tmp 23) (.tmp 25) 86 87 (.int .i8 0) 1 rfl Try.underlying86 info87 rfl (by decide) (by omega) u6 x6_2 x20_2 [.int .i8 x20_2] (fun _ => True) (fun _ => False) rfl rfl ?aP (fun _ hk => hk.elim) ?aF ?aO ?aB ?aS ?aL ?_; (case aP => exact rfl); (case aB => exact (by repeat (first | (with_reducible first | exact HB.out | apply below_alloc | apply pw_below_drewN | apply below_drew1) | exact HB.out))); (case aF => exact (fun _ _ => trivial)); (case aO => exact (by (with_reducible repeat (first | apply Kd.R_alloc | apply Kd.R_drewN | apply Kd.R_drew)); exact HO_6.out)); (case aS => exact (below_size (by repeat (first | (with_reducible first | exact HB.out | apply below_alloc | apply pw_below_drewN | apply below_drew1) | exact HB.out)))); (case aL => have := LMc10.out; omega); intro v288 w11 ho hb hg hat; rw [← Ny287.out] at ho; have n0_ := Aside0.mk (Kd.S_after (ok := (fun _ => True)) (by (with_reducible repeat (first | apply Kd.S_alloc | apply Kd.S_drewN | apply Kd.S_drew)); exact Kd.S_mono HO_4.out (fun _ hk => ⟨trivial, hk⟩)) hg hat); have n1_ := Aside0.mk (hb); have n2_ := Aside0.mk (ho); clear HO_4; clear HB; clear HO_6; have HO_4 := n0_; have HB := n1_; have HO289 := n2_; clear n0_ n1_ n2_; clear ho hb hg hat))
                  go_roundg k2
                  case measure => have := HK1.out; have := HK2.out; omega
                  case rel => exact ⟨(y287), (IntKind.i8.wrap (x20_2 + 1)), (by first | rfl | (simp; done) | (simp [*]; done)), H', ⟨by have := HK1.out; have := HK2.out; omega⟩, ⟨by (with_reducible repeat (first | apply Kd.S_alloc | apply Kd.S_drewN | apply Kd.S_drew)); exact Kd.S_mono HO_4.out (fun _ hk => hk.2)⟩, ⟨by (with_reducible repeat (first | apply Kd.R_alloc | apply Kd.R_drewN | apply Kd.R_drew)); exact HO289.out⟩, ⟨by repeat (first | (with_reducible first | exact HB.out | apply below_alloc | apply pw_below_drewN | apply below_drew1) | exact HB.out)⟩⟩
                · rw [if_neg c10] at H
                  exact absurd H (by simp)
              · rw [if_neg c9] at H
                have c9b0 : decide (x20_2 < x15_1) = false := decide_eq_false c9
                clear c9
                by_cases c12 : x4_1.length < 5864062014805
                · rw [if_pos c12] at H
                  have LMc12 := Aside0.mk c12
                  clear c12
                  obtain ⟨y290, hy290⟩ : ∃ y_ : List (List Int), y_ = (x4_1 ++ [x6_2]) := ⟨_, rfl⟩
                  replace H : (impl_HeapGame.l0 k2 y290 (IntKind.i8.wrap (wrap64 (a0 + 1))) (IntKind.i8.wrap (x15_1 + 1))) = some (r1, r2) := by first | (rw [hy290]; with_reducible exact H) | (have H2_ := (Option.bind_some _ _).symm.trans H; rw [hy290]; with_reducible exact H2_) | (have H2_ := (Option.bind_some _ _).symm.trans H; with_reducible exact H2_) | with_reducible exact H | (rw [hy290]; exact H) | exact H
                  have Ny290 := Aside0.mk hy290
                  clear hy290
                  have H' := Aside0.mk H
                  clear H
                  obtain ⟨Ao14, co14, eo14⟩ := Kd.R_slice HO_6.out
                  subst eo14
                  go_wp2_with (first | ((with_reducible refine gate_builtin (b := .append) (xs := #[.tmp 28, .tmp 30]) rfl ?_); at_builtin; refine Kd.S_append (Kd.slice 87 (Kd.int .i8)) (w0 := w) w.heap.size rfl (.tmp 28) (.tmp 30) 53 86 (.slice none 0 0) 24 rfl Try.underlying53 info86 rfl (by decide) (by omega) u4 x4_1 x6_2 [.slice Ao14 x6_2.length co14] (fun _ => True) (fun k_ => some k_ = (.slice Ao14 x6_2.length co14 : Value).ownBlock) rfl rfl ?aP (fun k_ hk_ => ((Kd.R_mono (ok' := fun k_ => ((fun _ => True)) k_ ∧ some k_ ≠ (u4 : Value).ownBlock) (Kd.R_apart' (HO_6.out) (Kd.S_typed HO_4.out) (by decide)) (fun k_ hk => ⟨trivial, hk.2⟩))).1 k_ hk_.symm) ?aF ?aO ?aB ?aS ?aL ?_; (case aP => exact Kd.M_row (Kd.R_mono (Kd.R_tight rfl (Kd.R_mono (ok' := fun k_ => ((fun _ => True)) k_ ∧ some k_ ≠ (u4 : Value).ownBlock) (Kd.R_apart' (HO_6.out) (Kd.S_typed HO_4.out) (by decide)) (fun k_ hk => ⟨trivial, hk.2⟩))) (fun _ h_ => h_))); (case aB => exact (by repeat (first | (with_reducible first | exact HB.out | apply below_alloc | apply pw_below_drewN | apply below_drew1) | exact HB.out))); (case aF => exact (fun _ _ => trivial)); (case aO => exact (by (with_reducible repeat (first | apply Kd.S_alloc | apply Kd.S_drewN | apply Kd.S_drew)); exact Kd.S_mono HO_4.out (fun k_ hk => ⟨trivial, fun e_ => hk e_⟩))); (case aS => exact (below_size (by repeat (first | (with_reducible first | exact HB.out | apply below_alloc | apply pw_below_drewN | apply below_drew1) | exact HB.out)))); (case aL => have := LMc12.out; omega); intro v291 w13 ho hb hg hat; rw [← Ny290.out] at ho; have n0_ := Aside0.mk (hb); have n1_ := Aside0.mk (ho); clear HB; clear HO_4; clear HO_6; have HB := n0_; have HO292 := n1_; clear n0_ n1_; clear ho hb hg hat))
                  go_roundg k2
                  case measure => have := HK1.out; have := HK2.out; omega
                  case rel => exact ⟨(y290), (IntKind.i8.wrap (x15_1 + 1)), (by first | rfl | (simp; done) | (simp [*]; done)), H', ⟨by have := HK1.out; have := HK2.out; omega⟩, ⟨by (with_reducible repeat (first | apply Kd.S_alloc | apply Kd.S_drewN | apply Kd.S_drew)); exact HO292.out⟩, ⟨by repeat (first | (with_reducible first | exact HB.out | apply below_alloc | apply pw_below_drewN | apply below_drew1) | exact HB.out)⟩⟩
                · rw [if_neg c12] at H
                  exact absurd H (by simp)
        · rw [if_neg c6] at H
          have c6b0 : decide (x15_1 < (IntKind.i8.wrap (wrap64 (a0 + 1)))) = false := decide_eq_false c6
          clear c6
          simp only [Option.some.injEq, Prod.mk.injEq] at H
          obtain ⟨rfl, rfl⟩ := H
          go_wp2
          go_ret2
          exact ⟨_, by first | rfl | (simp [errW_none, errW_some] <;> rfl) | (simp [*, errW_none, errW_some] <;> rfl), by (with_reducible repeat (first | apply Kd.S_alloc | apply Kd.S_drewN | apply Kd.S_drew)); exact HO_4.out, by repeat (first | (with_reducible first | exact HB.out | apply below_alloc | apply pw_below_drewN | apply below_drew1) | exact HB.out)⟩
  · replace c3 := Bool.eq_false_iff.mpr c3
    subst c3
    have H1 : (some (([] : List (List Int)), 2)) = some (r1, r2) := by rw [if_neg (show ¬ (false = true) by decide)] at H; exact H
    clear H
    have H := H1
    clear H1
    simp only [Option.some.injEq, Prod.mk.injEq] at H
    obtain ⟨rfl, rfl⟩ := H
    go_enter Try.func42, Try.ntmps42
    go_wp2_with (first | ((with_reducible refine gate_callee (f := 62) rfl ?_); refine goesL_ (some 9) rfl rfl Try.func62 (by kernel_rfl) rfl #[.int .i64 a0, .int .i64 0, .int .i64 59] rfl (by (try simp only [List.map_toArray, List.map_cons, List.map_nil]); first | done | rfl | (simp only [List.length_drop, List.length_take]; rfl)) ?_; (with_reducible refine (impl_within.calls a0 0 59 false _ A2.out).mono ?_); rintro e w' ⟨rfl, ⟨nd, rfl⟩⟩; refine ⟨_, rfl, ?_⟩))
    go_ret2
    exact ⟨_, by first | rfl | (simp [errW_none, errW_some] <;> rfl) | (simp [*, errW_none, errW_some] <;> rfl), by first | exact Kd.S_nil _ _ _ _ _ | exact Kd.N_nil _ _ _ _ _ | exact Kd.V_nil _ _ _ _ _ | exact Kd.Q_nil _ _ _ _ _ | exact Kd.R_nil _ _ _ _ _, by repeat (first | (with_reducible first | exact HB.out | apply below_alloc | apply pw_below_drewN | apply below_drew1) | exact HB.out)⟩

end Go.Proofs.Yteinllalhiflcaa.QFnSums
