/- Written by the session's own program (wip/myprint.py), for the law FnExactValueAt: each function as a plain Lean function, and its contract. -/
import Derived.Test.YtbhjkaiiebpopaaQFnExactValueAtx0
import Derived.Test.YtbhjkaiiebpopaaQFnExactValueAtx2
namespace Go.Proofs.Ytbhjkaiiebpopaa.QFnExactValueAt
open Go.RowKit Go.Proofs.YtbhjkaiiebpopaaW.PrintWords Go.Proofs.YtbhjkaiiebpopaaW.PrintLast Go.Proofs.YtbhjkaiiebpopaaW.PrintMore
attribute [local go_sem] max2_int min2_int max_two min_two max_three min_three max_four min_four   -- for this text's walks alone
set_option linter.unusedVariables false
set_option linter.unusedSimpArgs false

/-! ### spec_ValueAt: function 33 -/
def spec_ValueAt.f (k : Nat) (l0 : List (List Int)) (a1 : Int) : Option (Int × Int) := (spec_l03Asked.f k l0 a1).bind fun t154 => (if t154 = 0 then ((spec_l03Values.f k l0).bind fun t155 => (if 0 ≤ a1 then (if a1 < (t155.length : Int) then (some (rd t155 a1, 0)) else (none)) else (none))) else (some (0, t154)))
theorem spec_ValueAt.mono : ∀ a0 a1 k, LeO (spec_ValueAt.f k a0 a1) (spec_ValueAt.f (k + 1) a0 a1) := by
  intro a0 a1 k
  unfold spec_ValueAt.f
  repeat' first
      | (with_reducible exact spec_l03Asked.mono _ _ _)
      | (with_reducible exact spec_l03Values.mono _ _)
      | (with_reducible exact LeO.refl _)
      | (with_reducible exact LeO.none _)
      | (with_reducible refine LeO.ite ?_ ?_)
      | (with_reducible refine LeO.bind ?_ (fun _ => ?_))
      | exact spec_l03Asked.mono _ _ _
      | exact spec_l03Values.mono _ _
      | exact LeO.none _
      | refine LeO.ite ?_ ?_
      | refine LeO.bind ?_ (fun _ => ?_)
set_option maxHeartbeats 8000000 in
set_option maxRecDepth 100000 in
theorem spec_ValueAt.calls (k : Nat) (A0 : Option Addr) (c0 : Nat) (l0 : List (List Int)) (a1 : Int) (r1 : Int) (r2 : Int) (w : World) (hr0 : Kd.C (Kd.slice 72 (Kd.int .i8)) w A0 l0.length l0) (hc0 : l0.length ≤ c0) (h : spec_ValueAt.f k l0 a1 = some (r1, r2)) :
    Calls Try.prog 33 #[.slice A0 l0.length c0, .int .i64 a1] w fun e w' => e = .returned (.tuple #[.int .u16 r1, .int .i64 r2]) ∧ Below w.heap.size w w' := by
  have HR0 := Aside0.mk hr0
  have HC0 := Aside0.mk hc0
  clear hr0 hc0
  have HB := Aside0.mk (Below.refl w.heap.size w)
  have H : ((spec_l03Asked.f k l0 a1).bind fun t154 => (if t154 = 0 then ((spec_l03Values.f k l0).bind fun t155 => (if 0 ≤ a1 then (if a1 < (t155.length : Int) then (some (rd t155 a1, 0)) else (none)) else (none))) else (some (0, t154)))) = some (r1, r2) := h
  clear h
  replace H := Option.bind_eq_some_iff.mp H
  obtain ⟨t154, A30, H⟩ := H
  replace H : (if t154 = 0 then ((spec_l03Values.f k l0).bind fun t155 => (if 0 ≤ a1 then (if a1 < (t155.length : Int) then (some (rd t155 a1, 0)) else (none)) else (none))) else (some (0, t154))) = some (r1, r2) := H
  have A3 := Aside0.mk A30
  clear A30
  by_cases c4 : t154 = 0
  · rw [if_pos c4] at H
    have c4b0 : (t154 == 0) = true := beq_iff_eq.mpr c4
    have c4b1 : (t154 != 0) = false := bne_eq_false_iff_eq.mpr c4
    clear c4
    replace H := Option.bind_eq_some_iff.mp H
    obtain ⟨t155, A50, H⟩ := H
    replace H : (if 0 ≤ a1 then (if a1 < (t155.length : Int) then (some (rd t155 a1, 0)) else (none)) else (none)) = some (r1, r2) := H
    have A5 := Aside0.mk A50
    clear A50
    by_cases c6 : 0 ≤ a1
    · rw [if_pos c6] at H
      have c6b0 : decide (0 ≤ a1) = true := decide_eq_true c6
      clear c6
      by_cases c7 : a1 < (t155.length : Int)
      · rw [if_pos c7] at H
        have c7b0 : decide (a1 < (t155.length : Int)) = true := decide_eq_true c7
        clear c7
        simp only [Option.some.injEq, Prod.mk.injEq] at H
        obtain ⟨rfl, rfl⟩ := H
        go_enter Try.func33, Try.ntmps33
        go_wp2_with (first | ((with_reducible refine gate_callee (f := 68) rfl ?_); refine goesL_ (some 10) rfl rfl Try.func68 (by kernel_rfl) rfl #[.slice A0 l0.length c0, .int .i64 a1] rfl (by (try simp only [List.map_toArray, List.map_cons, List.map_nil]); first | done | rfl | (simp only [List.length_drop, List.length_take]; rfl)) ?_; (with_reducible refine (spec_l03Asked.calls k _ _ l0 a1 t154 _ ?side1 ?side2 A3.out).mono ?_); (case side1 => repeat (first | exact HR0.out | (with_reducible refine Kd.C_alloc ?_ _) | (with_reducible refine Kd.C_drewN ?_ _) | (with_reducible refine Kd.C_drew ?_))); (case side2 => exact HC0.out); rintro e w' ⟨rfl, ⟨nd, rfl⟩⟩; refine ⟨_, rfl, ?_⟩) | ((with_reducible refine gate_callee (f := 71) rfl ?_); refine goesL_ (some 15) rfl rfl Try.func71 (by kernel_rfl) rfl #[.slice A0 l0.length c0] rfl (by (try simp only [List.map_toArray, List.map_cons, List.map_nil]); first | done | rfl | (simp only [List.length_drop, List.length_take]; rfl)) ?_; (with_reducible refine (spec_l03Values.calls k _ _ l0 t155 _ ?side1 ?side2 A5.out).mono ?_); (case side1 => repeat (first | exact HR0.out | (with_reducible refine Kd.C_alloc ?_ _) | (with_reducible refine Kd.C_drewN ?_ _) | (with_reducible refine Kd.C_drew ?_))); (case side2 => exact HC0.out); rintro e w8 ⟨v156, rfl, ho0, hb⟩; refine ⟨_, rfl, ?_⟩; have n0_ := Aside0.mk (Kd.R_lower ho0 (below_size (by repeat (first | (with_reducible first | exact HB.out | apply below_alloc | apply pw_below_drewN | apply below_drew1) | exact HB.out)))); have n1_ := Aside0.mk (below_step (by repeat (first | (with_reducible first | exact HB.out | apply below_alloc | apply pw_below_drewN | apply below_drew1) | exact HB.out)) hb); clear HB; have HO157 := n0_; have HB := n1_; clear n0_ n1_; (try clear hb); (try clear hb2); (try clear hk); (try clear hi); (try clear ho0); obtain ⟨Ao9, co9, eo9⟩ := Kd.R_slice HO157.out; subst eo9; have p158 : 0 ≤ (a1 : Int) := of_decide_eq_true (by first | (with_reducible assumption) | assumption); have q158 : a1 < (t155.length : Int) := of_decide_eq_true (by first | (with_reducible assumption) | assumption); obtain ⟨ad158, e158, hx158_0⟩ := Kd.at_int (Kd.R_reads' HO157.out).2.2 a1 p158 q158; cases e158; replace p158 := eq_true p158; replace q158 := eq_true q158))
        go_ret2
        exact ⟨by first | rfl | (simp [errW_none, errW_some] <;> rfl) | (simp [*, errW_none, errW_some] <;> rfl), by repeat (first | (with_reducible first | exact HB.out | apply below_alloc | apply pw_below_drewN | apply below_drew1) | exact HB.out)⟩
      · rw [if_neg c7] at H
        exact absurd H (by simp)
    · rw [if_neg c6] at H
      exact absurd H (by simp)
  · rw [if_neg c4] at H
    have c4b0 : (t154 == 0) = false := beq_eq_false_iff_ne.mpr c4
    have c4b1 : (t154 != 0) = true := bne_iff_ne.mpr c4
    simp only [Option.some.injEq, Prod.mk.injEq] at H
    obtain ⟨rfl, rfl⟩ := H
    go_enter Try.func33, Try.ntmps33
    go_wp2_with (first | ((with_reducible refine gate_callee (f := 68) rfl ?_); refine goesL_ (some 10) rfl rfl Try.func68 (by kernel_rfl) rfl #[.slice A0 l0.length c0, .int .i64 a1] rfl (by (try simp only [List.map_toArray, List.map_cons, List.map_nil]); first | done | rfl | (simp only [List.length_drop, List.length_take]; rfl)) ?_; (with_reducible refine (spec_l03Asked.calls k _ _ l0 a1 t154 _ ?side1 ?side2 A3.out).mono ?_); (case side1 => repeat (first | exact HR0.out | (with_reducible refine Kd.C_alloc ?_ _) | (with_reducible refine Kd.C_drewN ?_ _) | (with_reducible refine Kd.C_drew ?_))); (case side2 => exact HC0.out); rintro e w' ⟨rfl, ⟨nd, rfl⟩⟩; refine ⟨_, rfl, ?_⟩))
    go_ret2
    exact ⟨by first | rfl | (simp [errW_none, errW_some] <;> rfl) | (simp [*, errW_none, errW_some] <;> rfl), by repeat (first | (with_reducible first | exact HB.out | apply below_alloc | apply pw_below_drewN | apply below_drew1) | exact HB.out)⟩

/-! ### impl_within: function 57 -/
def impl_within.f (a0 : Int) (a1 : Int) (a2 : Int) : Option (Bool) := if a1 ≤ a0 then (some (decide (a0 ≤ a2))) else (some false)
set_option maxHeartbeats 8000000 in
set_option maxRecDepth 100000 in
theorem impl_within.calls (a0 : Int) (a1 : Int) (a2 : Int) (r : Bool) (w : World) (h : impl_within.f a0 a1 a2 = some r) :
    Calls Try.prog 57 #[.int .i64 a0, .int .i64 a1, .int .i64 a2] w fun e w' => e = .returned (.bool r) ∧ Drawn0 w w' := by
  have H : (if a1 ≤ a0 then (some (decide (a0 ≤ a2))) else (some false)) = some r := h
  clear h
  by_cases c4 : a1 ≤ a0
  · rw [if_pos c4] at H
    have c4b0 : decide (a1 ≤ a0) = true := decide_eq_true c4
    clear c4
    obtain rfl := Option.some.inj H
    go_enter Try.func57, Try.ntmps57
    go_wp2
    go_ret
    exact ⟨by first | rfl | (simp; done) | (simp [*]; done), by repeat (first | exact Drawn0.refl _ | apply Drawn0.step)⟩
  · rw [if_neg c4] at H
    have c4b0 : decide (a1 ≤ a0) = false := decide_eq_false c4
    clear c4
    obtain rfl := Option.some.inj H
    go_enter Try.func57, Try.ntmps57
    go_wp2
    go_ret
    exact ⟨by first | rfl | (simp; done) | (simp [*]; done), by repeat (first | exact Drawn0.refl _ | apply Drawn0.step)⟩

/-! ### impl_ValidGame: function 18 -/
mutual
def impl_ValidGame.l0 : Nat → List (List Int) → List (List Int) → Int → Int → Option (Bool)
  | 0, _, _, _, _ => none
  | k + 1, x0, x7, x8, x9 => if x9 < x8 then (if 0 ≤ x9 then (if x9 < (x7.length : Int) then (impl_ValidGame.l1 k x0 x9 (rd_L1 x7 x9) x7 x8 x9 (rd_L1 x7 x9) ((rd_L1 x7 x9).length : Int) 0) else (none)) else (none)) else ((impl_within.f (x0.length : Int) 1 60).bind fun t159 => (some t159))
def impl_ValidGame.l1 : Nat → List (List Int) → Int → List Int → List (List Int) → Int → Int → List Int → Int → Int → Option (Bool)
  | 0, _, _, _, _, _, _, _, _, _ => none
  | k + 1, x0, x3, x4, x7, x8, x9, x14, x15, x16 => if x16 < x15 then (if 0 ≤ x16 then (if x16 < (x14.length : Int) then ((impl_within.f (wrap64 (rd x14 x16)) 0 (wrap64 (x3 - 1))).bind fun t162 => (if t162 = true then (if x16 > 0 then (if 0 ≤ (wrap64 (x16 - 1)) then (if (wrap64 (x16 - 1)) < (x4.length : Int) then (if (rd x14 x16) ≤ (rd x4 (wrap64 (x16 - 1))) then (some false) else (impl_ValidGame.l1 k x0 x3 x4 x7 x8 x9 x14 x15 (wrap64 (x16 + 1)))) else (none)) else (none)) else (impl_ValidGame.l1 k x0 x3 x4 x7 x8 x9 x14 x15 (wrap64 (x16 + 1)))) else (some false))) else (none)) else (none)) else (impl_ValidGame.l0 k x0 x7 x8 (wrap64 (x9 + 1)))
end
def impl_ValidGame.f (k : Nat) (l0 : List (List Int)) : Option (Bool) := impl_ValidGame.l0 k l0 l0 (l0.length : Int) 0
theorem impl_ValidGame.mono_l : ∀ k, (∀ y0 y1 y2 y3, LeO (impl_ValidGame.l0 k y0 y1 y2 y3) (impl_ValidGame.l0 (k + 1) y0 y1 y2 y3)) ∧ (∀ y0 y1 y2 y3 y4 y5 y6 y7 y8, LeO (impl_ValidGame.l1 k y0 y1 y2 y3 y4 y5 y6 y7 y8) (impl_ValidGame.l1 (k + 1) y0 y1 y2 y3 y4 y5 y6 y7 y8))
  | 0 => ⟨fun _ _ _ _ r h => by simp [impl_ValidGame.l0] at h, fun _ _ _ _ _ _ _ _ _ r h => by simp [impl_ValidGame.l1] at h⟩
  | k + 1 => by
    obtain ⟨ih0, ih1⟩ := impl_ValidGame.mono_l k
    refine ⟨?_, ?_⟩
    · intro y0 y1 y2 y3
      unfold impl_ValidGame.l0
      repeat' first
      | (with_reducible exact ih0 _ _ _ _)
      | (with_reducible exact ih1 _ _ _ _ _ _ _ _ _)
      | (with_reducible exact LeO.refl _)
      | (with_reducible exact LeO.none _)
      | (with_reducible refine LeO.ite ?_ ?_)
      | (with_reducible refine LeO.bind ?_ (fun _ => ?_))
      | exact ih0 _ _ _ _
      | exact ih1 _ _ _ _ _ _ _ _ _
      | exact LeO.none _
      | refine LeO.ite ?_ ?_
      | refine LeO.bind ?_ (fun _ => ?_)
    · intro y0 y1 y2 y3 y4 y5 y6 y7 y8
      unfold impl_ValidGame.l1
      repeat' first
      | (with_reducible exact ih0 _ _ _ _)
      | (with_reducible exact ih1 _ _ _ _ _ _ _ _ _)
      | (with_reducible exact LeO.refl _)
      | (with_reducible exact LeO.none _)
      | (with_reducible refine LeO.ite ?_ ?_)
      | (with_reducible refine LeO.bind ?_ (fun _ => ?_))
      | exact ih0 _ _ _ _
      | exact ih1 _ _ _ _ _ _ _ _ _
      | exact LeO.none _
      | refine LeO.ite ?_ ?_
      | refine LeO.bind ?_ (fun _ => ?_)
theorem impl_ValidGame.mono : ∀ a0 k, LeO (impl_ValidGame.f k a0) (impl_ValidGame.f (k + 1) a0) := by
  intro a0 k
  obtain ⟨ih0, ih1⟩ := impl_ValidGame.mono_l k
  unfold impl_ValidGame.f
  repeat' first
      | (with_reducible exact ih0 _ _ _ _)
      | (with_reducible exact ih1 _ _ _ _ _ _ _ _ _)
      | (with_reducible exact LeO.refl _)
      | (with_reducible exact LeO.none _)
      | (with_reducible refine LeO.ite ?_ ?_)
      | (with_reducible refine LeO.bind ?_ (fun _ => ?_))
      | exact ih0 _ _ _ _
      | exact ih1 _ _ _ _ _ _ _ _ _
      | exact LeO.none _
      | refine LeO.ite ?_ ?_
      | refine LeO.bind ?_ (fun _ => ?_)
set_option maxHeartbeats 8000000 in
set_option maxRecDepth 100000 in
theorem impl_ValidGame.calls (k : Nat) (A0 : Option Addr) (c0 : Nat) (l0 : List (List Int)) (r : Bool) (w : World) (hr0 : Kd.C (Kd.slice 72 (Kd.int .i8)) w A0 l0.length l0) (hc0 : l0.length ≤ c0) (h : impl_ValidGame.f k l0 = some r) :
    Calls Try.prog 18 #[.slice A0 l0.length c0] w fun e w' => e = .returned (.bool r) ∧ Drawn0 w w' := by
  have HR0 := Aside0.mk hr0
  have HC0 := Aside0.mk hc0
  clear hr0 hc0
  have H : (impl_ValidGame.l0 k l0 l0 (l0.length : Int) 0) = some r := h
  clear h
  have H' := Aside0.mk H
  clear H
  go_enter Try.func18, Try.ntmps18
  go_wp2
  go_loopg [9] k (fun kq v9 w' => ∃ (x9_1 : Int), v9 = .int .i64 x9_1 ∧ Aside0 (impl_ValidGame.l0 kq l0 l0 (l0.length : Int) x9_1 = some r) ∧ Aside0 (kq ≤ k) ∧ Drawn0 w w')
  case atStart => exact ⟨(0), (by first | rfl | (simp; done) | (simp [*]; done)), H', ⟨Nat.le_refl _⟩, by repeat (first | exact Drawn0.refl _ | apply Drawn0.step)⟩
  case round =>
    clear H'
    try clear c1
    obtain ⟨x9_1, rfl, HA, HK1, ⟨m1, rfl⟩⟩ := hrel
    cases gk with
    | zero => exact absurd HA.out (by simp [impl_ValidGame.l0])
    | succ k1 =>
      have H := HA.out
      clear HA
      simp only [impl_ValidGame.l0] at H
      by_cases c2 : x9_1 < (l0.length : Int)
      · rw [if_pos c2] at H
        have c2b0 : decide (x9_1 < (l0.length : Int)) = true := decide_eq_true c2
        clear c2
        by_cases c3 : 0 ≤ x9_1
        · rw [if_pos c3] at H
          have c3b0 : decide (0 ≤ x9_1) = true := decide_eq_true c3
          clear c3
          by_cases c4 : x9_1 < (l0.length : Int)
          · rw [if_pos c4] at H
            have c4b0 : decide (x9_1 < (l0.length : Int)) = true := decide_eq_true c4
            clear c4
            have H' := Aside0.mk H
            clear H
            have p160 : 0 ≤ (x9_1 : Int) := of_decide_eq_true (by first | (with_reducible assumption) | assumption)
            have q160 : x9_1 < (l0.length : Int) := of_decide_eq_true (by first | (with_reducible assumption) | assumption)
            obtain ⟨ad160, A160_0, c160_0, e160, hx160_0, hl160_0, hi160_0⟩ := at_L1 HR0.out x9_1 p160 q160
            cases e160
            have HR160_0 := Aside0.mk hi160_0
            have HC160_0 := Aside0.mk hl160_0
            clear hi160_0 hl160_0
            replace p160 := eq_true p160
            replace q160 := eq_true q160
            go_wp2
            go_loopg [16] k1 (fun kq v16 w' => ∃ (x16_2 : Int), v16 = .int .i64 x16_2 ∧ Aside0 (impl_ValidGame.l1 kq l0 x9_1 (rd_L1 l0 x9_1) l0 (l0.length : Int) x9_1 (rd_L1 l0 x9_1) ((rd_L1 l0 x9_1).length : Int) x16_2 = some r) ∧ Aside0 (kq ≤ k1) ∧ Drawn0 w w')
            case atStart => exact ⟨(0), (by first | rfl | (simp; done) | (simp [*]; done)), H', ⟨Nat.le_refl _⟩, by repeat (first | exact Drawn0.refl _ | apply Drawn0.step)⟩
            case round =>
              clear H'
              try clear c1
              try clear p1
              try clear q1
              try clear hx1
              try clear c2
              try clear c2b0
              try clear p2
              try clear c3
              try clear c3b0
              try clear c4
              try clear c4b0
              try clear hx160_0
              try clear p160
              try clear q160
              obtain ⟨x16_2, rfl, HA, HK2, ⟨m2, rfl⟩⟩ := hrel
              cases gk with
              | zero => exact absurd HA.out (by simp [impl_ValidGame.l1])
              | succ k2 =>
                have H := HA.out
                clear HA
                simp only [impl_ValidGame.l1] at H
                by_cases c5 : x16_2 < ((rd_L1 l0 x9_1).length : Int)
                · rw [if_pos c5] at H
                  have c5b0 : decide (x16_2 < ((rd_L1 l0 x9_1).length : Int)) = true := decide_eq_true c5
                  clear c5
                  by_cases c6 : 0 ≤ x16_2
                  · rw [if_pos c6] at H
                    have c6b0 : decide (0 ≤ x16_2) = true := decide_eq_true c6
                    clear c6
                    by_cases c7 : x16_2 < ((rd_L1 l0 x9_1).length : Int)
                    · rw [if_pos c7] at H
                      have c7b0 : decide (x16_2 < ((rd_L1 l0 x9_1).length : Int)) = true := decide_eq_true c7
                      clear c7
                      replace H := Option.bind_eq_some_iff.mp H
                      obtain ⟨t162, A80, H⟩ := H
                      replace H : (if t162 = true then (if x16_2 > 0 then (if 0 ≤ (wrap64 (x16_2 - 1)) then (if (wrap64 (x16_2 - 1)) < ((rd_L1 l0 x9_1).length : Int) then (if (rd (rd_L1 l0 x9_1) x16_2) ≤ (rd (rd_L1 l0 x9_1) (wrap64 (x16_2 - 1))) then (some false) else (impl_ValidGame.l1 k2 l0 x9_1 (rd_L1 l0 x9_1) l0 (l0.length : Int) x9_1 (rd_L1 l0 x9_1) ((rd_L1 l0 x9_1).length : Int) (wrap64 (x16_2 + 1)))) else (none)) else (none)) else (impl_ValidGame.l1 k2 l0 x9_1 (rd_L1 l0 x9_1) l0 (l0.length : Int) x9_1 (rd_L1 l0 x9_1) ((rd_L1 l0 x9_1).length : Int) (wrap64 (x16_2 + 1)))) else (some false)) = some r := H
                      have A8 := Aside0.mk A80
                      clear A80
                      by_cases c9 : t162 = true
                      · subst c9
                        have H1 : (if x16_2 > 0 then (if 0 ≤ (wrap64 (x16_2 - 1)) then (if (wrap64 (x16_2 - 1)) < ((rd_L1 l0 x9_1).length : Int) then (if (rd (rd_L1 l0 x9_1) x16_2) ≤ (rd (rd_L1 l0 x9_1) (wrap64 (x16_2 - 1))) then (some false) else (impl_ValidGame.l1 k2 l0 x9_1 (rd_L1 l0 x9_1) l0 (l0.length : Int) x9_1 (rd_L1 l0 x9_1) ((rd_L1 l0 x9_1).length : Int) (wrap64 (x16_2 + 1)))) else (none)) else (none)) else (impl_ValidGame.l1 k2 l0 x9_1 (rd_L1 l0 x9_1) l0 (l0.length : Int) x9_1 (rd_L1 l0 x9_1) ((rd_L1 l0 x9_1).length : Int) (wrap64 (x16_2 + 1)))) = some r := by rw [if_pos rfl] at H; exact H
                        clear H
                        have H := H1
                        clear H1
                        by_cases c10 : x16_2 > 0
                        · rw [if_pos c10] at H
                          have c10b0 : decide (0 < x16_2) = true := decide_eq_true c10
                          clear c10
                          obtain ⟨ji11, hji11⟩ : ∃ j_ : Int, (wrap64 (x16_2 - 1)) = j_ := ⟨_, rfl⟩
                          replace H : (if 0 ≤ (ji11) then (if (ji11) < ((rd_L1 l0 x9_1).length : Int) then (if (rd (rd_L1 l0 x9_1) x16_2) ≤ (rd (rd_L1 l0 x9_1) (ji11)) then (some false) else (impl_ValidGame.l1 k2 l0 x9_1 (rd_L1 l0 x9_1) l0 (l0.length : Int) x9_1 (rd_L1 l0 x9_1) ((rd_L1 l0 x9_1).length : Int) (wrap64 (x16_2 + 1)))) else (none)) else (none)) = some r := by first | (rw [hji11] at H; exact H) | (simp only [hji11] at H ⊢; exact H)
                          (try rw [hji11] at A8)
                          have hji11w : (IntKind.i64.wrap (x16_2 - 1)) = ji11 := (i64_w _).trans hji11
                          by_cases c12 : 0 ≤ (ji11)
                          · rw [if_pos c12] at H
                            have c12b0 : decide (0 ≤ (ji11)) = true := decide_eq_true c12
                            clear c12
                            by_cases c13 : (ji11) < ((rd_L1 l0 x9_1).length : Int)
                            · rw [if_pos c13] at H
                              have c13b0 : decide ((ji11) < ((rd_L1 l0 x9_1).length : Int)) = true := decide_eq_true c13
                              clear c13
                              by_cases c14 : (rd (rd_L1 l0 x9_1) x16_2) ≤ (rd (rd_L1 l0 x9_1) (ji11))
                              · rw [if_pos c14] at H
                                have c14b0 : decide ((rd (rd_L1 l0 x9_1) x16_2) ≤ (rd (rd_L1 l0 x9_1) (ji11))) = true := decide_eq_true c14
                                clear c14
                                obtain rfl := Option.some.inj H
                                have p161 : 0 ≤ (x16_2 : Int) := of_decide_eq_true (by first | (with_reducible assumption) | assumption)
                                have q161 : x16_2 < ((rd_L1 l0 x9_1).length : Int) := of_decide_eq_true (by first | (with_reducible assumption) | assumption)
                                obtain ⟨ad161, e161, hx161_0⟩ := Kd.at_int HR160_0.out x16_2 p161 q161
                                cases e161
                                replace p161 := eq_true p161
                                replace q161 := eq_true q161
                                go_wp2_with (first | ((with_reducible refine gate_callee (f := 57) rfl ?_); refine goesL_ (some 25) rfl rfl Try.func57 (by kernel_rfl) rfl #[.int .i64 (wrap64 (rd (rd_L1 l0 x9_1) x16_2)), .int .i64 0, .int .i64 (wrap64 (x9_1 - 1))] rfl (by (try simp only [List.map_toArray, List.map_cons, List.map_nil]); first | done | rfl | (simp only [List.length_drop, List.length_take]; rfl)) ?_; (with_reducible refine (impl_within.calls (wrap64 (rd (rd_L1 l0 x9_1) x16_2)) 0 (wrap64 (x9_1 - 1)) true _ A8.out).mono ?_); rintro e w' ⟨rfl, ⟨nd, rfl⟩⟩; refine ⟨_, rfl, ?_⟩; have p163 : 0 ≤ ((ji11) : Int) := of_decide_eq_true (by first | (with_reducible assumption) | assumption); have q163 : (ji11) < ((rd_L1 l0 x9_1).length : Int) := of_decide_eq_true (by first | (with_reducible assumption) | assumption); obtain ⟨ad163, e163, hx163_0⟩ := Kd.at_int HR160_0.out (ji11) p163 q163; obtain rfl : ad161 = ad163 := (by injection e163); replace p163 := eq_true p163; replace q163 := eq_true q163))
                                go_ret
                                exact ⟨by first | rfl | (simp; done) | (simp only [← hji11] <;> (first | rfl | simp)) | (simp [*]; done), by repeat (first | exact Drawn0.refl _ | apply Drawn0.step)⟩
                              · rw [if_neg c14] at H
                                have c14b0 : decide ((rd (rd_L1 l0 x9_1) x16_2) ≤ (rd (rd_L1 l0 x9_1) (ji11))) = false := decide_eq_false c14
                                clear c14
                                have H' := Aside0.mk H
                                clear H
                                have p161 : 0 ≤ (x16_2 : Int) := of_decide_eq_true (by first | (with_reducible assumption) | assumption)
                                have q161 : x16_2 < ((rd_L1 l0 x9_1).length : Int) := of_decide_eq_true (by first | (with_reducible assumption) | assumption)
                                obtain ⟨ad161, e161, hx161_0⟩ := Kd.at_int HR160_0.out x16_2 p161 q161
                                cases e161
                                replace p161 := eq_true p161
                                replace q161 := eq_true q161
                                go_wp2_with (first | ((with_reducible refine gate_callee (f := 57) rfl ?_); refine goesL_ (some 25) rfl rfl Try.func57 (by kernel_rfl) rfl #[.int .i64 (wrap64 (rd (rd_L1 l0 x9_1) x16_2)), .int .i64 0, .int .i64 (wrap64 (x9_1 - 1))] rfl (by (try simp only [List.map_toArray, List.map_cons, List.map_nil]); first | done | rfl | (simp only [List.length_drop, List.length_take]; rfl)) ?_; (with_reducible refine (impl_within.calls (wrap64 (rd (rd_L1 l0 x9_1) x16_2)) 0 (wrap64 (x9_1 - 1)) true _ A8.out).mono ?_); rintro e w' ⟨rfl, ⟨nd, rfl⟩⟩; refine ⟨_, rfl, ?_⟩; have p163 : 0 ≤ ((ji11) : Int) := of_decide_eq_true (by first | (with_reducible assumption) | assumption); have q163 : (ji11) < ((rd_L1 l0 x9_1).length : Int) := of_decide_eq_true (by first | (with_reducible assumption) | assumption); obtain ⟨ad163, e163, hx163_0⟩ := Kd.at_int HR160_0.out (ji11) p163 q163; obtain rfl : ad161 = ad163 := (by injection e163); replace p163 := eq_true p163; replace q163 := eq_true q163))
                                go_roundg k2
                                case measure => have := HK1.out; have := HK2.out; omega
                                case rel => exact ⟨(wrap64 (x16_2 + 1)), (by first | rfl | (simp; done) | (simp [*]; done)), H', ⟨by have := HK1.out; have := HK2.out; omega⟩, by repeat (first | exact Drawn0.refl _ | apply Drawn0.step)⟩
                            · rw [if_neg c13] at H
                              exact absurd H (by simp)
                          · rw [if_neg c12] at H
                            exact absurd H (by simp)
                        · rw [if_neg c10] at H
                          have c10b0 : decide (0 < x16_2) = false := decide_eq_false c10
                          clear c10
                          have H' := Aside0.mk H
                          clear H
                          have p161 : 0 ≤ (x16_2 : Int) := of_decide_eq_true (by first | (with_reducible assumption) | assumption)
                          have q161 : x16_2 < ((rd_L1 l0 x9_1).length : Int) := of_decide_eq_true (by first | (with_reducible assumption) | assumption)
                          obtain ⟨ad161, e161, hx161_0⟩ := Kd.at_int HR160_0.out x16_2 p161 q161
                          cases e161
                          replace p161 := eq_true p161
                          replace q161 := eq_true q161
                          go_wp2_with (first | ((with_reducible refine gate_callee (f := 57) rfl ?_); refine goesL_ (some 25) rfl rfl Try.func57 (by kernel_rfl) rfl #[.int .i64 (wrap64 (rd (rd_L1 l0 x9_1) x16_2)), .int .i64 0, .int .i64 (wrap64 (x9_1 - 1))] rfl (by (try simp only [List.map_toArray, List.map_cons, List.map_nil]); first | done | rfl | (simp only [List.length_drop, List.length_take]; rfl)) ?_; (with_reducible refine (impl_within.calls (wrap64 (rd (rd_L1 l0 x9_1) x16_2)) 0 (wrap64 (x9_1 - 1)) true _ A8.out).mono ?_); rintro e w' ⟨rfl, ⟨nd, rfl⟩⟩; refine ⟨_, rfl, ?_⟩))
                          go_roundg k2
                          case measure => have := HK1.out; have := HK2.out; omega
                          case rel => exact ⟨(wrap64 (x16_2 + 1)), (by first | rfl | (simp; done) | (simp [*]; done)), H', ⟨by have := HK1.out; have := HK2.out; omega⟩, by repeat (first | exact Drawn0.refl _ | apply Drawn0.step)⟩
                      · replace c9 := Bool.eq_false_iff.mpr c9
                        subst c9
                        have H1 : (some false) = some r := by rw [if_neg (show ¬ (false = true) by decide)] at H; exact H
                        clear H
                        have H := H1
                        clear H1
                        obtain rfl := Option.some.inj H
                        have p161 : 0 ≤ (x16_2 : Int) := of_decide_eq_true (by first | (with_reducible assumption) | assumption)
                        have q161 : x16_2 < ((rd_L1 l0 x9_1).length : Int) := of_decide_eq_true (by first | (with_reducible assumption) | assumption)
                        obtain ⟨ad161, e161, hx161_0⟩ := Kd.at_int HR160_0.out x16_2 p161 q161
                        cases e161
                        replace p161 := eq_true p161
                        replace q161 := eq_true q161
                        go_wp2_with (first | ((with_reducible refine gate_callee (f := 57) rfl ?_); refine goesL_ (some 25) rfl rfl Try.func57 (by kernel_rfl) rfl #[.int .i64 (wrap64 (rd (rd_L1 l0 x9_1) x16_2)), .int .i64 0, .int .i64 (wrap64 (x9_1 - 1))] rfl (by (try simp only [List.map_toArray, List.map_cons, List.map_nil]); first | done | rfl | (simp only [List.length_drop, List.length_take]; rfl)) ?_; (with_reducible refine (impl_within.calls (wrap64 (rd (rd_L1 l0 x9_1) x16_2)) 0 (wrap64 (x9_1 - 1)) false _ A8.out).mono ?_); rintro e w' ⟨rfl, ⟨nd, rfl⟩⟩; refine ⟨_, rfl, ?_⟩))
                        go_ret
                        exact ⟨by first | rfl | (simp; done) | (simp [*]; done), by repeat (first | exact Drawn0.refl _ | apply Drawn0.step)⟩
                    · rw [if_neg c7] at H
                      exact absurd H (by simp)
                  · rw [if_neg c6] at H
                    exact absurd H (by simp)
                · rw [if_neg c5] at H
                  have c5b0 : decide (x16_2 < ((rd_L1 l0 x9_1).length : Int)) = false := decide_eq_false c5
                  clear c5
                  have H' := Aside0.mk H
                  clear H
                  go_wp2
                  go_roundg k2
                  case measure => have := HK1.out; have := HK2.out; omega
                  case rel => exact ⟨(wrap64 (x9_1 + 1)), (by first | rfl | (simp; done) | (simp [*]; done)), H', ⟨by have := HK1.out; have := HK2.out; omega⟩, by repeat (first | exact Drawn0.refl _ | apply Drawn0.step)⟩
          · rw [if_neg c4] at H
            exact absurd H (by simp)
        · rw [if_neg c3] at H
          exact absurd H (by simp)
      · rw [if_neg c2] at H
        have c2b0 : decide (x9_1 < (l0.length : Int)) = false := decide_eq_false c2
        clear c2
        replace H := Option.bind_eq_some_iff.mp H
        obtain ⟨t159, A150, H⟩ := H
        replace H : (some t159) = some r := H
        have A15 := Aside0.mk A150
        clear A150
        obtain rfl := Option.some.inj H
        go_wp2_with (first | ((with_reducible refine gate_callee (f := 57) rfl ?_); refine goesL_ (some 44) rfl rfl Try.func57 (by kernel_rfl) rfl #[.int .i64 (l0.length : Int), .int .i64 1, .int .i64 60] rfl (by (try simp only [List.map_toArray, List.map_cons, List.map_nil]); first | done | rfl | (simp only [List.length_drop, List.length_take]; rfl)) ?_; (with_reducible refine (impl_within.calls (l0.length : Int) 1 60 t159 _ A15.out).mono ?_); rintro e w' ⟨rfl, ⟨nd, rfl⟩⟩; refine ⟨_, rfl, ?_⟩))
        go_ret
        exact ⟨by first | rfl | (simp; done) | (simp [*]; done), by repeat (first | exact Drawn0.refl _ | apply Drawn0.step)⟩

-- NOT PRINTED: function 89 (slices_IndexFunc_int64_int64)

-- NOT PRINTED: function 85 (slices_ContainsFunc_int64_int64)

/-! ### impl_placeCode: function 70 -/
def okPlace (G : Nat) (p : Int) : Bool := decide (0 ≤ p) && decide (p ≤ wrap64 ((G : Int) - 1))
theorem within_okPlace (G : Nat) (p : Int) : impl_within.f p 0 (wrap64 ((G : Int) - 1)) = some (okPlace G p) := by
  unfold impl_within.f okPlace
  by_cases h : 0 ≤ p <;> simp [h]
set_option maxHeartbeats 400000 in
set_option maxRecDepth 100000 in
theorem place1 (A0 : Option Addr) (G c0 : Nat) (p : Int) (b : Nat) (w : World) (hb : w.cell? ⟨b, 0, none⟩ = some (.slice A0 G c0)) :
    Calls Try.prog 86 #[.int .i64 p, .pointer (some ⟨b, 0, none⟩)] w fun e w' => e = .returned (.bool (!(okPlace G p))) ∧ Drawn0 w w' := by
  have HW := Aside0.mk (within_okPlace G p)
  go_enter Try.func86, Try.ntmps86
  go_wp2_with (go_at_call 57; (with_reducible refine (impl_within.calls _ _ _ _ _ HW.out).mono ?_); rintro e w' ⟨rfl, hd⟩)
  go_ret
  exact ⟨rfl, hd⟩
theorem any_take (l : List Int) (q : Int → Bool) (n : Nat) (h : n < l.length) (h0 : (l.take n).any q = false) : (l.take (n + 1)).any q = q l[n] := by
  rw [List.take_succ_eq_append_getElem h, List.any_append, h0]
  simp
theorem any_hit (l : List Int) (q : Int → Bool) (n : Nat) (h : n < l.length) (h1 : q l[n] = true) : l.any q = true := List.any_eq_true.2 ⟨_, List.getElem_mem h, h1⟩
set_option maxHeartbeats 400000 in
set_option maxRecDepth 100000 in
theorem index1 (A0 : Option Addr) (G c0 : Nat) (A1 : Option Addr) (c1 : Nat) (l1 : List Int) (b : Nat) (w : World) (hb : w.cell? ⟨b, 0, none⟩ = some (.slice A0 G c0)) (hr1 : Kd.C (Kd.int .i64) w A1 l1.length l1) (hc1 : l1.length ≤ c1) :
    Calls Try.prog 89 #[.slice A1 l1.length c1, .func (.func 86) #[] #[.pointer (some ⟨b, 0, none⟩)]] w fun e w' => (∃ r : Int, e = .returned (.int .i64 r) ∧ Aside0 (decide (r ≥ 0) = l1.any (fun p => !(okPlace G p)))) ∧ Drawn0 w w' := by
  have HR := Aside0.mk (Kd.reads_of_C (d := (0 : Int)) hr1)
  clear hr1
  have hm := HR.out.2.1
  go_enter Try.func89, Try.ntmps89
  go_wp2_with fail
  go_loopw [8] (fun i w' => ∃ n : Nat, n ≤ l1.length ∧ i = .int .i64 n ∧ Aside0 ((l1.take n).any (fun p => !(okPlace G p)) = false) ∧ Drawn0 w w') (fun i w' => l1.length - (intOf i).toNat)
  case atStart => exact ⟨0, Nat.zero_le _, rfl, ⟨rfl⟩, Drawn0.refl _⟩
  case round =>
    obtain ⟨n, hn, rfl, HA, ⟨m1, rfl⟩⟩ := hrel
    by_cases hlt : n < l1.length
    · obtain ⟨ad, rfl, hcc⟩ := HR.out.2.2 (by omega)
      have hcell := hcc n hlt
      have e : l1.getD n 0 = l1[n] := by simp [List.getD_eq_getElem?_getD, List.getElem?_eq_getElem hlt]
      rw [e] at hcell
      clear e hcc
      have hb2 : (w.drewN m1).cell? ⟨b, 0, none⟩ = some (.slice A0 G c0) := hb
      go_wp2_with (go_at_call 86; refine (place1 A0 G c0 _ b _ hb2).mono ?_; rintro e w' ⟨rfl, ⟨m2, rfl⟩⟩)
      · have hh : (!okPlace G l1[n]) = true := by assumption
        have hA := any_hit l1 (fun p => !(okPlace G p)) n hlt hh
        go_ret
        exact ⟨⟨(n : Int), rfl, ⟨by rw [hA]; simp⟩⟩, ⟨m1 + m2, rfl⟩⟩
      · have hh : (!okPlace G l1[n]) = false := by assumption
        have hA := any_take l1 (fun p => !(okPlace G p)) n hlt HA.out
        exact ⟨⟨n + 1, by omega, by go_num, ⟨by rw [hA]; exact hh⟩, ⟨m1 + m2, rfl⟩⟩, by simp [intOf]; omega⟩
    · obtain rfl : n = l1.length := by omega
      have hA := HA.out
      rw [List.take_length] at hA
      have HB := Aside0.mk hA
      clear hA
      go_wp2_with fail
      go_ret
      exact ⟨⟨-1, rfl, ⟨by rw [HB.out]; rfl⟩⟩, ⟨m1, rfl⟩⟩
set_option maxHeartbeats 400000 in
set_option maxRecDepth 100000 in
theorem contains1 (A0 : Option Addr) (G c0 : Nat) (A1 : Option Addr) (c1 : Nat) (l1 : List Int) (b : Nat) (w : World) (hb : w.cell? ⟨b, 0, none⟩ = some (.slice A0 G c0)) (hr1 : Kd.C (Kd.int .i64) w A1 l1.length l1) (hc1 : l1.length ≤ c1) :
    Calls Try.prog 85 #[.slice A1 l1.length c1, .func (.func 86) #[] #[.pointer (some ⟨b, 0, none⟩)]] w fun e w' => e = .returned (.bool (l1.any (fun p => !(okPlace G p)))) ∧ Drawn0 w w' := by
  have HR := Aside0.mk hr1
  clear hr1
  go_enter Try.func85, Try.ntmps85
  go_wp2_with (go_at_call 89; refine (index1 A0 G c0 A1 c1 l1 b _ hb HR.out hc1).mono ?_; rintro e w' ⟨⟨r, rfl, hr⟩, ⟨m, rfl⟩⟩)
  go_ret
  exact ⟨by rw [← hr.out]; rfl, ⟨m, rfl⟩⟩
/-- What placeCode tells. -/
def impl_placeCode.f (k : Nat) (l0 : List (List Int)) (l1 : List Int) : Option (Int) := (impl_ValidGame.f k l0).bind fun t => if t = true then (if (l1.any fun p => !(okPlace l0.length p)) = true then some 2 else some 0) else some 1
theorem impl_placeCode.mono : ∀ a0 a1 k, LeO (impl_placeCode.f k a0 a1) (impl_placeCode.f (k + 1) a0 a1) := by
  intro a0 a1 k
  unfold impl_placeCode.f
  exact LeO.bind (impl_ValidGame.mono _ _) (fun _ => LeO.refl _)
set_option maxHeartbeats 800000 in
set_option maxRecDepth 100000 in
theorem impl_placeCode.calls (k : Nat) (A0 : Option Addr) (c0 : Nat) (l0 : List (List Int)) (A1 : Option Addr) (c1 : Nat) (l1 : List Int) (r : Int) (w : World) (hr0 : Kd.C (Kd.slice 72 (Kd.int .i8)) w A0 l0.length l0) (hc0 : l0.length ≤ c0) (hr1 : Kd.C (Kd.int .i64) w A1 l1.length l1) (hc1 : l1.length ≤ c1) (h : impl_placeCode.f k l0 l1 = some r) :
    Calls Try.prog 70 #[.slice A0 l0.length c0, .slice A1 l1.length c1] w fun e w' => e = .returned (.int .i64 r) ∧ Below w.heap.size w w' := by
  have HR0 := Aside0.mk hr0
  have HR1 := Aside0.mk hr1
  have HC0 := Aside0.mk hc0
  have HC1 := Aside0.mk hc1
  clear hr0 hr1 hc0 hc1
  obtain ⟨v, hv, h2⟩ := Option.bind_eq_some_iff.mp h
  clear h
  have HV := Aside0.mk hv
  clear hv
  cases v with
  | false =>
    rw [if_neg (by simp)] at h2
    obtain rfl := Option.some.inj h2
    clear h2
    go_enter Try.func70, Try.ntmps70
    go_wp2_with (go_at_call 18; refine (impl_ValidGame.calls k _ _ l0 false _ (Kd.C_alloc HR0.out _) HC0.out HV.out).mono ?_; rintro e w' ⟨rfl, ⟨m, rfl⟩⟩)
    go_ret
    exact ⟨rfl, pw_below_drewN (below_alloc (Below.refl _ _) _) m⟩
  | true =>
    rw [if_pos rfl] at h2
    cases ha : (l1.any fun p => !(okPlace l0.length p)) with
    | true =>
      rw [if_pos ha] at h2
      obtain rfl := Option.some.inj h2
      clear h2
      have HA := Aside0.mk ha
      clear ha
      go_enter Try.func70, Try.ntmps70
      go_wp2_with (first | (go_at_call 18; refine (impl_ValidGame.calls k _ _ l0 true _ (Kd.C_alloc HR0.out _) HC0.out HV.out).mono ?_; rintro e w' ⟨rfl, ⟨m, rfl⟩⟩) | (go_at_call 85; refine (contains1 A0 l0.length c0 A1 c1 l1 w.heap.size _ (by simp) (Kd.C_drewN (Kd.C_alloc HR1.out _) _) HC1.out).mono ?_; rw [HA.out]; rintro e w' ⟨rfl, ⟨m2, rfl⟩⟩))
      go_ret
      exact ⟨rfl, pw_below_drewN (below_alloc (Below.refl _ _) _) _⟩
    | false =>
      rw [if_neg (by simp [ha])] at h2
      obtain rfl := Option.some.inj h2
      clear h2
      have HA := Aside0.mk ha
      clear ha
      go_enter Try.func70, Try.ntmps70
      go_wp2_with (first | (go_at_call 18; refine (impl_ValidGame.calls k _ _ l0 true _ (Kd.C_alloc HR0.out _) HC0.out HV.out).mono ?_; rintro e w' ⟨rfl, ⟨m, rfl⟩⟩) | (go_at_call 85; refine (contains1 A0 l0.length c0 A1 c1 l1 w.heap.size _ (by simp) (Kd.C_drewN (Kd.C_alloc HR1.out _) _) HC1.out).mono ?_; rw [HA.out]; rintro e w' ⟨rfl, ⟨m2, rfl⟩⟩))
      go_ret
      exact ⟨rfl, pw_below_drewN (below_alloc (Below.refl _ _) _) _⟩

/-! ### slices_Index_bool_bool: function 88 -/
def slices_Index_bool_bool.l0 : Nat → List Bool → Bool → Int → Int → Option (Int)
  | 0, _, _, _, _ => none
  | k + 1, x0, x1, x7, x8 => if x8 < x7 then (if 0 ≤ x8 then (if x8 < (x0.length : Int) then (if (x1 == (rdOf false x0 x8)) = true then (some x8) else (slices_Index_bool_bool.l0 k x0 x1 x7 (wrap64 (x8 + 1)))) else (none)) else (none)) else (some (-1))
def slices_Index_bool_bool.f (k : Nat) (l0 : List Bool) (a1 : Bool) : Option (Int) := slices_Index_bool_bool.l0 k l0 a1 (l0.length : Int) 0
theorem slices_Index_bool_bool.mono_l : ∀ k, (∀ y0 y1 y2 y3, LeO (slices_Index_bool_bool.l0 k y0 y1 y2 y3) (slices_Index_bool_bool.l0 (k + 1) y0 y1 y2 y3))
  | 0 => fun _ _ _ _ r h => by simp [slices_Index_bool_bool.l0] at h
  | k + 1 => by
    have ih0 := slices_Index_bool_bool.mono_l k
    · intro y0 y1 y2 y3
      unfold slices_Index_bool_bool.l0
      repeat' first
      | (with_reducible exact ih0 _ _ _ _)
      | (with_reducible exact LeO.refl _)
      | (with_reducible exact LeO.none _)
      | (with_reducible refine LeO.ite ?_ ?_)
      | (with_reducible refine LeO.bind ?_ (fun _ => ?_))
      | exact ih0 _ _ _ _
      | exact LeO.none _
      | refine LeO.ite ?_ ?_
      | refine LeO.bind ?_ (fun _ => ?_)
theorem slices_Index_bool_bool.mono : ∀ a0 a1 k, LeO (slices_Index_bool_bool.f k a0 a1) (slices_Index_bool_bool.f (k + 1) a0 a1) := by
  intro a0 a1 k
  have ih0 := slices_Index_bool_bool.mono_l k
  unfold slices_Index_bool_bool.f
  repeat' first
      | (with_reducible exact ih0 _ _ _ _)
      | (with_reducible exact LeO.refl _)
      | (with_reducible exact LeO.none _)
      | (with_reducible refine LeO.ite ?_ ?_)
      | (with_reducible refine LeO.bind ?_ (fun _ => ?_))
      | exact ih0 _ _ _ _
      | exact LeO.none _
      | refine LeO.ite ?_ ?_
      | refine LeO.bind ?_ (fun _ => ?_)
set_option maxHeartbeats 8000000 in
set_option maxRecDepth 100000 in
theorem slices_Index_bool_bool.calls (k : Nat) (A0 : Option Addr) (c0 : Nat) (l0 : List Bool) (a1 : Bool) (r : Int) (w : World) (hr0 : Kd.C Kd.bool w A0 l0.length l0) (hc0 : l0.length ≤ c0) (h : slices_Index_bool_bool.f k l0 a1 = some r) :
    Calls Try.prog 88 #[.slice A0 l0.length c0, .bool a1] w fun e w' => e = .returned (.int .i64 r) ∧ Drawn0 w w' := by
  have HR0 := Aside0.mk hr0
  have HC0 := Aside0.mk hc0
  clear hr0 hc0
  have H : (slices_Index_bool_bool.l0 k l0 a1 (l0.length : Int) 0) = some r := h
  clear h
  have H' := Aside0.mk H
  clear H
  go_enter Try.func88, Try.ntmps88
  go_wp2
  go_loopg [8] k (fun kq v8 w' => ∃ (x8_1 : Int), v8 = .int .i64 x8_1 ∧ Aside0 (slices_Index_bool_bool.l0 kq l0 a1 (l0.length : Int) x8_1 = some r) ∧ Aside0 (kq ≤ k) ∧ Drawn0 w w')
  case atStart => exact ⟨(0), (by first | rfl | (simp; done) | (simp [*]; done)), H', ⟨Nat.le_refl _⟩, by repeat (first | exact Drawn0.refl _ | apply Drawn0.step)⟩
  case round =>
    clear H'
    try clear p2
    obtain ⟨x8_1, rfl, HA, HK1, ⟨m1, rfl⟩⟩ := hrel
    cases gk with
    | zero => exact absurd HA.out (by simp [slices_Index_bool_bool.l0])
    | succ k1 =>
      have H := HA.out
      clear HA
      simp only [slices_Index_bool_bool.l0] at H
      by_cases c3 : x8_1 < (l0.length : Int)
      · rw [if_pos c3] at H
        have c3b0 : decide (x8_1 < (l0.length : Int)) = true := decide_eq_true c3
        clear c3
        by_cases c4 : 0 ≤ x8_1
        · rw [if_pos c4] at H
          have c4b0 : decide (0 ≤ x8_1) = true := decide_eq_true c4
          clear c4
          by_cases c5 : x8_1 < (l0.length : Int)
          · rw [if_pos c5] at H
            have c5b0 : decide (x8_1 < (l0.length : Int)) = true := decide_eq_true c5
            clear c5
            by_cases c6 : (a1 == (rdOf false l0 x8_1)) = true
            · rw [if_pos c6] at H
              have c6b0 : (a1 == (rdOf false l0 x8_1)) = true := c6
              (try (have c6b1 : decide (a1 = (rdOf false l0 x8_1)) = true := by simpa using c6))
              (try (have c6b2 : (a1 == (rdOf false l0 x8_1)) = true := by simpa using c6))
              clear c6
              obtain rfl := Option.some.inj H
              have p164 : 0 ≤ (x8_1 : Int) := of_decide_eq_true (by first | (with_reducible assumption) | assumption)
              have q164 : x8_1 < (l0.length : Int) := of_decide_eq_true (by first | (with_reducible assumption) | assumption)
              obtain ⟨ad164, e164, hx164_0⟩ := Kd.at_bool HR0.out x8_1 p164 q164
              cases e164
              replace p164 := eq_true p164
              replace q164 := eq_true q164
              go_wp2
              go_ret
              exact ⟨by first | rfl | (simp; done) | (simp [*]; done), by repeat (first | exact Drawn0.refl _ | apply Drawn0.step)⟩
            · rw [if_neg c6] at H
              have c6b0 : (a1 == (rdOf false l0 x8_1)) = false := by simpa using c6
              (try (have c6b1 : decide (a1 = (rdOf false l0 x8_1)) = false := by simpa using c6))
              (try (have c6b2 : (a1 == (rdOf false l0 x8_1)) = false := by simpa using c6))
              (try (have c6b3 : ¬ (a1 = (rdOf false l0 x8_1)) := by simpa using c6))
              clear c6
              have H' := Aside0.mk H
              clear H
              have p164 : 0 ≤ (x8_1 : Int) := of_decide_eq_true (by first | (with_reducible assumption) | assumption)
              have q164 : x8_1 < (l0.length : Int) := of_decide_eq_true (by first | (with_reducible assumption) | assumption)
              obtain ⟨ad164, e164, hx164_0⟩ := Kd.at_bool HR0.out x8_1 p164 q164
              cases e164
              replace p164 := eq_true p164
              replace q164 := eq_true q164
              go_wp2
              go_roundg k1
              case measure => have := HK1.out; omega
              case rel => exact ⟨(wrap64 (x8_1 + 1)), (by first | rfl | (simp; done) | (simp [*]; done)), H', ⟨by have := HK1.out; omega⟩, by repeat (first | exact Drawn0.refl _ | apply Drawn0.step)⟩
          · rw [if_neg c5] at H
            exact absurd H (by simp)
        · rw [if_neg c4] at H
          exact absurd H (by simp)
      · rw [if_neg c3] at H
        have c3b0 : decide (x8_1 < (l0.length : Int)) = false := decide_eq_false c3
        clear c3
        obtain rfl := Option.some.inj H
        go_wp2
        go_ret
        exact ⟨by first | rfl | (simp; done) | (simp [*]; done), by repeat (first | exact Drawn0.refl _ | apply Drawn0.step)⟩

/-! ### impl_mex: function 84 -/
def impl_mex.l0 : Nat → List Bool → List Int → Int → Int → Option (Int)
  | 0, _, _, _, _ => none
  | k + 1, x3, x10, x11, x12 => if x12 < x11 then (if 0 ≤ x12 then (if x12 < (x10.length : Int) then (if (wrap64 (rd x10 x12)) < (x3.length : Int) then (if 0 ≤ (rd x10 x12) then (if (rd x10 x12) < (x3.length : Int) then (impl_mex.l0 k (x3.set ((rd x10 x12) : Int).toNat true) x10 x11 (wrap64 (x12 + 1))) else (none)) else (none)) else (impl_mex.l0 k x3 x10 x11 (wrap64 (x12 + 1)))) else (none)) else (none)) else ((slices_Index_bool_bool.f k x3 false).bind fun t170 => (some t170))
def impl_mex.f (k : Nat) (l0 : List Int) : Option (Int) := if 0 ≤ (wrap64 ((l0.length : Int) + 1)) then (if (wrap64 ((l0.length : Int) + 1) : Int).toNat ≤ 281474976710656 then (impl_mex.l0 k (List.replicate (wrap64 ((l0.length : Int) + 1) : Int).toNat false) l0 (l0.length : Int) 0) else (none)) else (none)
theorem impl_mex.mono_l : ∀ k, (∀ y0 y1 y2 y3, LeO (impl_mex.l0 k y0 y1 y2 y3) (impl_mex.l0 (k + 1) y0 y1 y2 y3))
  | 0 => fun _ _ _ _ r h => by simp [impl_mex.l0] at h
  | k + 1 => by
    have ih0 := impl_mex.mono_l k
    · intro y0 y1 y2 y3
      unfold impl_mex.l0
      repeat' first
      | (with_reducible exact ih0 _ _ _ _)
      | (with_reducible exact slices_Index_bool_bool.mono _ _ _)
      | (with_reducible exact LeO.refl _)
      | (with_reducible exact LeO.none _)
      | (with_reducible refine LeO.ite ?_ ?_)
      | (with_reducible refine LeO.bind ?_ (fun _ => ?_))
      | exact ih0 _ _ _ _
      | exact slices_Index_bool_bool.mono _ _ _
      | exact LeO.none _
      | refine LeO.ite ?_ ?_
      | refine LeO.bind ?_ (fun _ => ?_)
theorem impl_mex.mono : ∀ a0 k, LeO (impl_mex.f k a0) (impl_mex.f (k + 1) a0) := by
  intro a0 k
  have ih0 := impl_mex.mono_l k
  unfold impl_mex.f
  repeat' first
      | (with_reducible exact ih0 _ _ _ _)
      | (with_reducible exact slices_Index_bool_bool.mono _ _ _)
      | (with_reducible exact LeO.refl _)
      | (with_reducible exact LeO.none _)
      | (with_reducible refine LeO.ite ?_ ?_)
      | (with_reducible refine LeO.bind ?_ (fun _ => ?_))
      | exact ih0 _ _ _ _
      | exact slices_Index_bool_bool.mono _ _ _
      | exact LeO.none _
      | refine LeO.ite ?_ ?_
      | refine LeO.bind ?_ (fun _ => ?_)
set_option maxHeartbeats 8000000 in
set_option maxRecDepth 100000 in
theorem impl_mex.calls (k : Nat) (A0 : Option Addr) (c0 : Nat) (l0 : List Int) (r : Int) (w : World) (hr0 : Kd.C (Kd.int .u16) w A0 l0.length l0) (hc0 : l0.length ≤ c0) (h : impl_mex.f k l0 = some r) :
    Calls Try.prog 84 #[.slice A0 l0.length c0] w fun e w' => e = .returned (.int .i64 r) ∧ Below w.heap.size w w' := by
  have HR0 := Aside0.mk hr0
  have HC0 := Aside0.mk hc0
  clear hr0 hc0
  have HB := Aside0.mk (Below.refl w.heap.size w)
  have H : (if 0 ≤ (wrap64 ((l0.length : Int) + 1)) then (if (wrap64 ((l0.length : Int) + 1) : Int).toNat ≤ 281474976710656 then (impl_mex.l0 k (List.replicate (wrap64 ((l0.length : Int) + 1) : Int).toNat false) l0 (l0.length : Int) 0) else (none)) else (none)) = some r := h
  clear h
  obtain ⟨ji2, hji2⟩ : ∃ j_ : Int, (wrap64 ((l0.length : Int) + 1)) = j_ := ⟨_, rfl⟩
  replace H : (if 0 ≤ (ji2) then (if (ji2 : Int).toNat ≤ 281474976710656 then (impl_mex.l0 k (List.replicate (ji2 : Int).toNat false) l0 (l0.length : Int) 0) else (none)) else (none)) = some r := by first | (rw [hji2] at H; exact H) | (simp only [hji2] at H ⊢; exact H)
  have hji2w : (IntKind.i64.wrap ((l0.length : Int) + 1)) = ji2 := (i64_w _).trans hji2
  by_cases c3 : 0 ≤ (ji2)
  · rw [if_pos c3] at H
    have c3b0 := eq_true c3
    have c3b1 : decide (0 ≤ (ji2)) = true := decide_eq_true c3
    clear c3
    by_cases c4 : (ji2 : Int).toNat ≤ 281474976710656
    · rw [if_pos c4] at H
      have c4b0 := eq_true c4
      have c4b1 : decide ((ji2 : Int).toNat ≤ 281474976710656) = true := decide_eq_true c4
      clear c4
      obtain ⟨y165, hy165⟩ : ∃ y_ : List Bool, y_ = (List.replicate (ji2 : Int).toNat false) := ⟨_, rfl⟩
      replace H : (impl_mex.l0 k y165 l0 (l0.length : Int) 0) = some r := by first | (rw [hy165]; with_reducible exact H) | (have H2_ := (Option.bind_some _ _).symm.trans H; rw [hy165]; with_reducible exact H2_) | (have H2_ := (Option.bind_some _ _).symm.trans H; with_reducible exact H2_) | with_reducible exact H | (rw [hy165]; exact H) | exact H
      have Ny165 := Aside0.mk hy165
      clear hy165
      have H' := Aside0.mk H
      clear H
      go_enter Try.func84, Try.ntmps84
      go_wp2_with (first | ((with_reducible refine gate_dst (N := 9) rfl ?_); refine Kd.R_make Kd.bool _ 4 rfl (N := 9) rfl 93 _ _ rfl ji2 rfl rfl Try.underlying93 (.bool false) 1 info4 rfl (by decide) (by omega) false (ok := fun _ => True) (okp := fun _ => True) rfl (fun _ hk => hk) trivial (of_decide_eq_true (by first | (with_reducible assumption) | assumption)) (Nat.le_trans (Nat.mul_le_mul_right _ (of_decide_eq_true (by first | (with_reducible assumption) | assumption) : ji2.toNat ≤ 281474976710656)) (by omega)) (Below.refl _ _) (Nat.le_refl _) ?_; intro v166 w5 ho6 hb hg_ hnew_; clear hg_ hnew_; (first | rw [← Ny165.out] at ho6 | (simp only [Int.reduceToNat] at ho6; rw [← Ny165.out] at ho6)); have n0_ := Aside0.mk (Kd.R_lower ho6 (below_size (by repeat (first | (with_reducible first | exact HB.out | apply below_alloc | apply pw_below_drewN | apply below_drew1) | exact HB.out)))); have n1_ := Aside0.mk (below_step (by repeat (first | (with_reducible first | exact HB.out | apply below_alloc | apply pw_below_drewN | apply below_drew1) | exact HB.out)) hb); clear HB; have HO167 := n0_; have HB := n1_; clear n0_ n1_; clear hb ho6))
      go_loopg [12] k (fun kq v12 w' => ∃ (x3_1 : List Bool) (x12_1 : Int), v12 = .int .i64 x12_1 ∧ Aside0 (impl_mex.l0 kq x3_1 l0 (l0.length : Int) x12_1 = some r) ∧ Aside0 (kq ≤ k) ∧ Aside0 (Kd.R Kd.bool 4 w' w.heap.size (fun _ => True) v166 x3_1) ∧ Aside0 (Below w.heap.size w w'))
      case atStart => exact ⟨(y165), (0), (by first | rfl | (simp; done) | (simp [*]; done)), H', ⟨Nat.le_refl _⟩, ⟨by (with_reducible repeat (first | apply Kd.R_alloc | apply Kd.R_drewN | apply Kd.R_drew)); exact HO167.out⟩, ⟨by repeat (first | (with_reducible first | exact HB.out | apply below_alloc | apply pw_below_drewN | apply below_drew1) | exact HB.out)⟩⟩
      case round =>
        clear H'
        try clear p2
        try clear c3
        try clear c3b0
        try clear c3b1
        try clear c4
        try clear c4b0
        try clear c4b1
        try clear p6
        obtain ⟨x3_1, x12_1, rfl, HA, HK1, HO_3, HB⟩ := hrel
        cases gk with
        | zero => exact absurd HA.out (by simp [impl_mex.l0])
        | succ k1 =>
          have H := HA.out
          clear HA
          simp only [impl_mex.l0] at H
          by_cases c7 : x12_1 < (l0.length : Int)
          · rw [if_pos c7] at H
            have c7b0 : decide (x12_1 < (l0.length : Int)) = true := decide_eq_true c7
            clear c7
            by_cases c8 : 0 ≤ x12_1
            · rw [if_pos c8] at H
              have c8b0 : decide (0 ≤ x12_1) = true := decide_eq_true c8
              clear c8
              by_cases c9 : x12_1 < (l0.length : Int)
              · rw [if_pos c9] at H
                have c9b0 : decide (x12_1 < (l0.length : Int)) = true := decide_eq_true c9
                clear c9
                by_cases c10 : (wrap64 (rd l0 x12_1)) < (x3_1.length : Int)
                · rw [if_pos c10] at H
                  have c10b0 : decide ((wrap64 (rd l0 x12_1)) < (x3_1.length : Int)) = true := decide_eq_true c10
                  clear c10
                  by_cases c11 : 0 ≤ (rd l0 x12_1)
                  · rw [if_pos c11] at H
                    have c11b0 : decide (0 ≤ (rd l0 x12_1)) = true := decide_eq_true c11
                    clear c11
                    by_cases c12 : (rd l0 x12_1) < (x3_1.length : Int)
                    · rw [if_pos c12] at H
                      have c12b0 : decide ((rd l0 x12_1) < (x3_1.length : Int)) = true := decide_eq_true c12
                      clear c12
                      obtain ⟨y169, hy169⟩ : ∃ y_ : List Bool, y_ = (x3_1.set ((rd l0 x12_1) : Int).toNat true) := ⟨_, rfl⟩
                      replace H : (impl_mex.l0 k1 y169 l0 (l0.length : Int) (wrap64 (x12_1 + 1))) = some r := by first | (rw [hy169]; with_reducible exact H) | (have H2_ := (Option.bind_some _ _).symm.trans H; rw [hy169]; with_reducible exact H2_) | (have H2_ := (Option.bind_some _ _).symm.trans H; with_reducible exact H2_) | with_reducible exact H | (rw [hy169]; exact H) | exact H
                      have Ny169 := Aside0.mk hy169
                      clear hy169
                      have H' := Aside0.mk H
                      clear H
                      have p168 : 0 ≤ (x12_1 : Int) := of_decide_eq_true (by first | (with_reducible assumption) | assumption)
                      have q168 : x12_1 < (l0.length : Int) := of_decide_eq_true (by first | (with_reducible assumption) | assumption)
                      obtain ⟨ad168, e168, hx168_0⟩ := Kd.at_int HR0.out x12_1 p168 q168
                      cases e168
                      replace hx168_0 := (HB.out.cell (World.block_lt_of_cell? w _ hx168_0)).trans hx168_0
                      replace p168 := eq_true p168
                      replace q168 := eq_true q168
                      obtain ⟨Ao14, co14, eo14⟩ := Kd.R_slice HO_3.out
                      subst eo14
                      have p13 : 0 ≤ ((rd l0 x12_1) : Int) := of_decide_eq_true (by first | (with_reducible assumption) | assumption)
                      have q13 : ((rd l0 x12_1) : Int) < ((x3_1.length : Int) : Int) := of_decide_eq_true (by first | (with_reducible assumption) | assumption)
                      obtain ⟨go13, co13, eo13, gb13, gl13, cl13, HG13⟩ := Kd.R_form HO_3.out (by omega)
                      (first | cases eo13 | (injection eo13 with ea_ en_ ec_; (first | subst ea_ | (injection ea_ with ea_; subst ea_)); subst ec_; clear en_))
                      have GB13 := Aside0.mk gb13
                      have GG13 := Aside0.mk HG13
                      clear gb13 gl13 HG13
                      obtain ⟨hx13_0, hf13_0⟩ := Kd.R_celln false HO_3.out ((rd l0 x12_1) : Int) p13 q13
                      replace p13 := eq_true p13
                      replace q13 := eq_true q13
                      have HP15 := Kd.R_putg HO_3.out ((rd l0 x12_1) : Int) true
                      go_wp2_with (first | ((with_reducible refine gate_store (t := 4) (p := 23) rfl ?_); refine store_event (t := 4) (p := 23) (v := ?vo_w16) (w1 := (wr.setCell ⟨go13, ((rd l0 x12_1) : Int).toNat, none⟩ (.bool true))) ?hg ?ho ?hn ?hr ?_; (case ho => rfl); (case hg => rfl); (case hn => rfl); (case hr => first | (go_simp; done) | (go_simp; rfl)); intro w16 hw; have hg : wr.grownBy w16 (some go13) := (by rw [hw]; exact HP15.2); have hp_ : Kd.R Kd.bool 4 w16 w.heap.size (fun _ => True) (.slice (some ⟨go13, 0, none⟩) x3_1.length co14) y169 := (by rw [hw, Ny169.out]; exact HP15.1); clear HP15; have n0_ := Aside0.mk (hp_); have n1_ := Aside0.mk ((by rw [hw]; exact below_set (HB.out) GB13.out : Below w.heap.size w w16)); clear HO_3; clear HB; have HO_3 := n0_; have HB := n1_; clear n0_ n1_; clear hg hw hp_))
                      go_roundg k1
                      case measure => have := HK1.out; omega
                      case rel => exact ⟨(y169), (wrap64 (x12_1 + 1)), (by first | rfl | (simp; done) | (simp [*]; done)), H', ⟨by have := HK1.out; omega⟩, ⟨by (with_reducible repeat (first | apply Kd.R_alloc | apply Kd.R_drewN | apply Kd.R_drew)); exact HO_3.out⟩, ⟨by repeat (first | (with_reducible first | exact HB.out | apply below_alloc | apply pw_below_drewN | apply below_drew1) | exact HB.out)⟩⟩
                    · rw [if_neg c12] at H
                      exact absurd H (by simp)
                  · rw [if_neg c11] at H
                    exact absurd H (by simp)
                · rw [if_neg c10] at H
                  have c10b0 : decide ((wrap64 (rd l0 x12_1)) < (x3_1.length : Int)) = false := decide_eq_false c10
                  clear c10
                  have H' := Aside0.mk H
                  clear H
                  have p168 : 0 ≤ (x12_1 : Int) := of_decide_eq_true (by first | (with_reducible assumption) | assumption)
                  have q168 : x12_1 < (l0.length : Int) := of_decide_eq_true (by first | (with_reducible assumption) | assumption)
                  obtain ⟨ad168, e168, hx168_0⟩ := Kd.at_int HR0.out x12_1 p168 q168
                  cases e168
                  replace hx168_0 := (HB.out.cell (World.block_lt_of_cell? w _ hx168_0)).trans hx168_0
                  replace p168 := eq_true p168
                  replace q168 := eq_true q168
                  obtain ⟨Ao17, co17, eo17⟩ := Kd.R_slice HO_3.out
                  subst eo17
                  go_wp2
                  go_roundg k1
                  case measure => have := HK1.out; omega
                  case rel => exact ⟨(x3_1), (wrap64 (x12_1 + 1)), (by first | rfl | (simp; done) | (simp [*]; done)), H', ⟨by have := HK1.out; omega⟩, ⟨by (with_reducible repeat (first | apply Kd.R_alloc | apply Kd.R_drewN | apply Kd.R_drew)); exact HO_3.out⟩, ⟨by repeat (first | (with_reducible first | exact HB.out | apply below_alloc | apply pw_below_drewN | apply below_drew1) | exact HB.out)⟩⟩
              · rw [if_neg c9] at H
                exact absurd H (by simp)
            · rw [if_neg c8] at H
              exact absurd H (by simp)
          · rw [if_neg c7] at H
            have c7b0 : decide (x12_1 < (l0.length : Int)) = false := decide_eq_false c7
            clear c7
            replace H := Option.bind_eq_some_iff.mp H
            obtain ⟨t170, A180, H⟩ := H
            replace H : (some t170) = some r := H
            have A18 := Aside0.mk A180
            clear A180
            obtain rfl := Option.some.inj H
            obtain ⟨Ao19, co19, eo19⟩ := Kd.R_slice HO_3.out
            subst eo19
            go_wp2_with (first | ((with_reducible refine gate_callee (f := 88) rfl ?_); refine goesL_ (some 26) rfl rfl Try.func88 (by kernel_rfl) rfl #[.slice Ao19 x3_1.length co19, .bool false] rfl (by (try simp only [List.map_toArray, List.map_cons, List.map_nil]); first | done | rfl | (simp only [List.length_drop, List.length_take]; rfl)) ?_; (with_reducible refine (slices_Index_bool_bool.calls k1 _ _ x3_1 false t170 _ ?side1 ?side2 A18.out).mono ?_); (case side1 => repeat (first | exact (Kd.R_reads' HO_3.out).2.2 | (with_reducible refine Kd.C_alloc ?_ _) | (with_reducible refine Kd.C_drewN ?_ _) | (with_reducible refine Kd.C_drew ?_))); (case side2 => exact (Kd.R_reads' HO_3.out).2.1); rintro e w' ⟨rfl, ⟨nd, rfl⟩⟩; refine ⟨_, rfl, ?_⟩))
            go_ret
            exact ⟨by first | rfl | (simp [errW_none, errW_some] <;> rfl) | (simp only [← hji2]; first | rfl | (simp [errW_none, errW_some] <;> rfl)) | (simp [*, errW_none, errW_some] <;> rfl), by repeat (first | (with_reducible first | exact HB.out | apply below_alloc | apply pw_below_drewN | apply below_drew1) | exact HB.out)⟩
    · rw [if_neg c4] at H
      exact absurd H (by simp)
  · rw [if_neg c3] at H
    exact absurd H (by simp)

end Go.Proofs.Ytbhjkaiiebpopaa.QFnExactValueAt
