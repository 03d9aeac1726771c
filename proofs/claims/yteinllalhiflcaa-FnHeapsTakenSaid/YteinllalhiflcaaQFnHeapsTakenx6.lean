/- Written by the session's own program (wip/myprint.py), for the law FnHeapsTaken: each function as a plain Lean function, and its contract. -/
import Derived.Test.YteinllalhiflcaaQFnHeapsTakenx0
import Derived.Test.YteinllalhiflcaaQFnHeapsTakenx3
import Derived.Test.YteinllalhiflcaaQFnHeapsTakenx4
import Derived.Test.YteinllalhiflcaaQFnHeapsTakenx5
namespace Go.Proofs.Yteinllalhiflcaa.QFnHeapsTaken
open Go.RowKit Go.Proofs.YteinllalhiflcaaW.PrintWords Go.Proofs.YteinllalhiflcaaW.PrintLast Go.Proofs.YteinllalhiflcaaW.PrintMore
attribute [local go_sem] max2_int min2_int max_two min_two max_three min_three max_four min_four   -- for this text's walks alone
set_option linter.unusedVariables false
set_option linter.unusedSimpArgs false

/-! ### impl_TakePeriod: function 23 -/
mutual
def impl_TakePeriod.j0 : Nat → Int → Bool → Option (Int × Int × Int)
  | 0, _, _ => none
  | k + 1, x0, x15 => if x15 = true then (some (0, 0, 2)) else (impl_TakePeriod.l0 k x0 63)
def impl_TakePeriod.l0 : Nat → Int → Int → Option (Int × Int × Int)
  | 0, _, _ => none
  | k + 1, x0, x5 => (impl_mayTake.f x0 x5).bind fun t242 => (if t242 = true then ((impl_takeValues.f k x0 500).bind fun t243 => (impl_TakePeriod.l1 k x5 t243 0)) else (impl_TakePeriod.l0 k x0 (wrap64 (x5 - 1))))
def impl_TakePeriod.l1 : Nat → Int → List Int → Int → Option (Int × Int × Int)
  | 0, _, _, _ => none
  | k + 1, x5, x6, x7 => if (wrap64 ((wrap64 (x7 + 1)) + x5)) ≤ 500 then (impl_TakePeriod.l2 k x5 x6 x7 1) else (some (0, 0, 6))
def impl_TakePeriod.l2 : Nat → Int → List Int → Int → Int → Option (Int × Int × Int)
  | 0, _, _, _, _ => none
  | k + 1, x5, x6, x7, x8 => if (wrap64 ((wrap64 (x7 + x8)) + x5)) ≤ 500 then (if 0 ≤ x7 then (if x7 ≤ (wrap64 (x7 + x5)) then (if (wrap64 (x7 + x5)) ≤ (x6.length : Int) then (if 0 ≤ (wrap64 (x7 + x8)) then (if (wrap64 (x7 + x8)) ≤ (wrap64 ((wrap64 (x7 + x8)) + x5)) then (if (wrap64 ((wrap64 (x7 + x8)) + x5)) ≤ (x6.length : Int) then ((impl_Nimber.f k ((x6.take ((wrap64 (x7 + x5)) : Int).toNat).drop (x7 : Int).toNat) ((x6.take ((wrap64 ((wrap64 (x7 + x8)) + x5)) : Int).toNat).drop ((wrap64 (x7 + x8)) : Int).toNat)).bind fun t254 => (if t254 = true then (some (x7, x8, 0)) else (impl_TakePeriod.l2 k x5 x6 x7 (wrap64 (x8 + 1))))) else (none)) else (none)) else (none)) else (none)) else (none)) else (none)) else (impl_TakePeriod.l1 k x5 x6 (wrap64 (x7 + 1)))
end
def impl_TakePeriod.f (k : Nat) (a0 : Int) : Option (Int × Int × Int) := if (Go.bits .and .u64 a0 1) = 1 then (impl_TakePeriod.j0 k a0 true) else (impl_TakePeriod.j0 k a0 (a0 == 0))
theorem impl_TakePeriod.mono_l : ∀ k, (∀ y0 y1, LeO (impl_TakePeriod.j0 k y0 y1) (impl_TakePeriod.j0 (k + 1) y0 y1)) ∧ (∀ y0 y1, LeO (impl_TakePeriod.l0 k y0 y1) (impl_TakePeriod.l0 (k + 1) y0 y1)) ∧ (∀ y0 y1 y2, LeO (impl_TakePeriod.l1 k y0 y1 y2) (impl_TakePeriod.l1 (k + 1) y0 y1 y2)) ∧ (∀ y0 y1 y2 y3, LeO (impl_TakePeriod.l2 k y0 y1 y2 y3) (impl_TakePeriod.l2 (k + 1) y0 y1 y2 y3))
  | 0 => ⟨fun _ _ r h => by simp [impl_TakePeriod.j0] at h, fun _ _ r h => by simp [impl_TakePeriod.l0] at h, fun _ _ _ r h => by simp [impl_TakePeriod.l1] at h, fun _ _ _ _ r h => by simp [impl_TakePeriod.l2] at h⟩
  | k + 1 => by
    obtain ⟨ih0, ih1, ih2, ih3⟩ := impl_TakePeriod.mono_l k
    refine ⟨?_, ?_, ?_, ?_⟩
    · intro y0 y1
      unfold impl_TakePeriod.j0
      repeat' first
      | (with_reducible exact ih0 _ _)
      | (with_reducible exact ih1 _ _)
      | (with_reducible exact ih2 _ _ _)
      | (with_reducible exact ih3 _ _ _ _)
      | (with_reducible exact impl_Nimber.mono _ _ _)
      | (with_reducible exact impl_takeValues.mono _ _ _)
      | (with_reducible exact LeO.refl _)
      | (with_reducible exact LeO.none _)
      | (with_reducible refine LeO.ite ?_ ?_)
      | (with_reducible refine LeO.bind ?_ (fun _ => ?_))
      | exact ih0 _ _
      | exact ih1 _ _
      | exact ih2 _ _ _
      | exact ih3 _ _ _ _
      | exact impl_Nimber.mono _ _ _
      | exact impl_takeValues.mono _ _ _
      | exact LeO.none _
      | refine LeO.ite ?_ ?_
      | refine LeO.bind ?_ (fun _ => ?_)
    · intro y0 y1
      unfold impl_TakePeriod.l0
      repeat' first
      | (with_reducible exact ih0 _ _)
      | (with_reducible exact ih1 _ _)
      | (with_reducible exact ih2 _ _ _)
      | (with_reducible exact ih3 _ _ _ _)
      | (with_reducible exact impl_Nimber.mono _ _ _)
      | (with_reducible exact impl_takeValues.mono _ _ _)
      | (with_reducible exact LeO.refl _)
      | (with_reducible exact LeO.none _)
      | (with_reducible refine LeO.ite ?_ ?_)
      | (with_reducible refine LeO.bind ?_ (fun _ => ?_))
      | exact ih0 _ _
      | exact ih1 _ _
      | exact ih2 _ _ _
      | exact ih3 _ _ _ _
      | exact impl_Nimber.mono _ _ _
      | exact impl_takeValues.mono _ _ _
      | exact LeO.none _
      | refine LeO.ite ?_ ?_
      | refine LeO.bind ?_ (fun _ => ?_)
    · intro y0 y1 y2
      unfold impl_TakePeriod.l1
      repeat' first
      | (with_reducible exact ih0 _ _)
      | (with_reducible exact ih1 _ _)
      | (with_reducible exact ih2 _ _ _)
      | (with_reducible exact ih3 _ _ _ _)
      | (with_reducible exact impl_Nimber.mono _ _ _)
      | (with_reducible exact impl_takeValues.mono _ _ _)
      | (with_reducible exact LeO.refl _)
      | (with_reducible exact LeO.none _)
      | (with_reducible refine LeO.ite ?_ ?_)
      | (with_reducible refine LeO.bind ?_ (fun _ => ?_))
      | exact ih0 _ _
      | exact ih1 _ _
      | exact ih2 _ _ _
      | exact ih3 _ _ _ _
      | exact impl_Nimber.mono _ _ _
      | exact impl_takeValues.mono _ _ _
      | exact LeO.none _
      | refine LeO.ite ?_ ?_
      | refine LeO.bind ?_ (fun _ => ?_)
    · intro y0 y1 y2 y3
      unfold impl_TakePeriod.l2
      repeat' first
      | (with_reducible exact ih0 _ _)
      | (with_reducible exact ih1 _ _)
      | (with_reducible exact ih2 _ _ _)
      | (with_reducible exact ih3 _ _ _ _)
      | (with_reducible exact impl_Nimber.mono _ _ _)
      | (with_reducible exact impl_takeValues.mono _ _ _)
      | (with_reducible exact LeO.refl _)
      | (with_reducible exact LeO.none _)
      | (with_reducible refine LeO.ite ?_ ?_)
      | (with_reducible refine LeO.bind ?_ (fun _ => ?_))
      | exact ih0 _ _
      | exact ih1 _ _
      | exact ih2 _ _ _
      | exact ih3 _ _ _ _
      | exact impl_Nimber.mono _ _ _
      | exact impl_takeValues.mono _ _ _
      | exact LeO.none _
      | refine LeO.ite ?_ ?_
      | refine LeO.bind ?_ (fun _ => ?_)
theorem impl_TakePeriod.mono : ∀ a0 k, LeO (impl_TakePeriod.f k a0) (impl_TakePeriod.f (k + 1) a0) := by
  intro a0 k
  obtain ⟨ih0, ih1, ih2, ih3⟩ := impl_TakePeriod.mono_l k
  unfold impl_TakePeriod.f
  repeat' first
      | (with_reducible exact ih0 _ _)
      | (with_reducible exact ih1 _ _)
      | (with_reducible exact ih2 _ _ _)
      | (with_reducible exact ih3 _ _ _ _)
      | (with_reducible exact impl_Nimber.mono _ _ _)
      | (with_reducible exact impl_takeValues.mono _ _ _)
      | (with_reducible exact LeO.refl _)
      | (with_reducible exact LeO.none _)
      | (with_reducible refine LeO.ite ?_ ?_)
      | (with_reducible refine LeO.bind ?_ (fun _ => ?_))
      | exact ih0 _ _
      | exact ih1 _ _
      | exact ih2 _ _ _
      | exact ih3 _ _ _ _
      | exact impl_Nimber.mono _ _ _
      | exact impl_takeValues.mono _ _ _
      | exact LeO.none _
      | refine LeO.ite ?_ ?_
      | refine LeO.bind ?_ (fun _ => ?_)
set_option maxHeartbeats 8000000 in
set_option maxRecDepth 100000 in
theorem impl_TakePeriod.calls (k : Nat) (a0 : Int) (r1 : Int) (r2 : Int) (r3 : Int) (w : World) (h : impl_TakePeriod.f k a0 = some (r1, r2, r3)) :
    Calls Try.prog 23 #[.int .u64 a0] w fun e w' => e = .returned (.tuple #[.int .i64 r1, .int .i64 r2, .int .i64 r3]) ∧ Below w.heap.size w w' := by
  have HB := Aside0.mk (Below.refl w.heap.size w)
  have H : (if (Go.bits .and .u64 a0 1) = 1 then (impl_TakePeriod.j0 k a0 true) else (impl_TakePeriod.j0 k a0 (a0 == 0))) = some (r1, r2, r3) := h
  clear h
  have HC2 := Aside0.mk H
  clear H
  go_enter Try.func23, Try.ntmps23
  go_upto_region 1 with (fail)
  repeat (go_quiet (fail); go_upto_region 1 with (fail))
  go_cut [15] (fun v15 wc => ∃ (kq : Nat) (x15_1 : Bool), v15 = .bool x15_1 ∧ Aside0 (impl_TakePeriod.j0 kq a0 x15_1 = some (r1, r2, r3)) ∧ Aside0 (kq ≤ k) ∧ Aside0 (Below w.heap.size w wc))
  case first =>
    have H := HC2.out
    clear HC2
    by_cases c3 : (Go.bits .and .u64 a0 1) = 1
    · rw [if_pos c3] at H
      have c3b0 : ((Go.bits .and .u64 a0 1) == 1) = true := beq_iff_eq.mpr c3
      have c3b1 : ((Go.bits .and .u64 a0 1) != 1) = false := bne_eq_false_iff_eq.mpr c3
      clear c3
      (first | rw [c3b0] | (simp only [i64_w, i32_w]; rw [c3b0]) | skip)
      have H' := Aside0.mk H
      clear H
      go_wp2
      repeat (go_quiet (fail); try go_wp2)
      go_meet
      case rel => exact ⟨_, (true), (by first | rfl | (simp; done) | (simp [*]; done)), H', ⟨by first | omega | exact Nat.le_refl _⟩, ⟨by repeat (first | (with_reducible first | exact HB.out | apply below_alloc | apply pw_below_drewN | apply below_drew1) | exact HB.out)⟩⟩
    · rw [if_neg c3] at H
      have c3b0 : ((Go.bits .and .u64 a0 1) == 1) = false := beq_eq_false_iff_ne.mpr c3
      have c3b1 : ((Go.bits .and .u64 a0 1) != 1) = true := bne_iff_ne.mpr c3
      (first | rw [c3b0] | (simp only [i64_w, i32_w]; rw [c3b0]) | skip)
      have H' := Aside0.mk H
      clear H
      go_wp2
      repeat (go_quiet (fail); try go_wp2)
      go_meet
      case rel => exact ⟨_, ((a0 == 0)), (by first | rfl | (simp; done) | (simp [*]; done)), H', ⟨by first | omega | exact Nat.le_refl _⟩, ⟨by repeat (first | (with_reducible first | exact HB.out | apply below_alloc | apply pw_below_drewN | apply below_drew1) | exact HB.out)⟩⟩
  case rest =>
    clear HC2
    try clear c2
    try clear p2
    try clear c3
    try clear c3b0
    try clear c3b1
    obtain ⟨kq, x15_1, rfl, HA, HJ1, HB⟩ := hcut
    cases kq with
    | zero => exact absurd HA.out (by simp [impl_TakePeriod.j0])
    | succ kj1 =>
      have H := HA.out
      clear HA
      simp only [impl_TakePeriod.j0] at H
      by_cases c4 : x15_1 = true
      · subst c4
        have H1 : (some (0, 0, 2)) = some (r1, r2, r3) := by rw [if_pos rfl] at H; exact H
        clear H
        have H := H1
        clear H1
        simp only [Option.some.injEq, Prod.mk.injEq] at H
        obtain ⟨rfl, rfl, rfl⟩ := H
        go_wp2
        repeat (go_quiet (fail); try go_wp2)
        go_ret3
        exact ⟨by first | rfl | (simp [errW_none, errW_some] <;> rfl) | (simp [*, errW_none, errW_some] <;> rfl), by repeat (first | (with_reducible first | exact HB.out | apply below_alloc | apply pw_below_drewN | apply below_drew1) | exact HB.out)⟩
      · replace c4 := Bool.eq_false_iff.mpr c4
        subst c4
        have H1 : (impl_TakePeriod.l0 kj1 a0 63) = some (r1, r2, r3) := by rw [if_neg (show ¬ (false = true) by decide)] at H; exact H
        clear H
        have H := H1
        clear H1
        have H' := Aside0.mk H
        clear H
        go_wp2
        repeat (go_quiet (fail); try go_wp2)
        go_loopg [5] kj1 (fun kq v5 w' => ∃ (x5_2 : Int), v5 = .int .i64 x5_2 ∧ Aside0 (impl_TakePeriod.l0 kq a0 x5_2 = some (r1, r2, r3)) ∧ Aside0 (kq ≤ kj1) ∧ Aside0 (Below w.heap.size w w'))
        case atStart => exact ⟨(63), (by first | rfl | (simp; done) | (simp [*]; done)), H', ⟨Nat.le_refl _⟩, ⟨by repeat (first | (with_reducible first | exact HB.out | apply below_alloc | apply pw_below_drewN | apply below_drew1) | exact HB.out)⟩⟩
        case round =>
          clear H'
          try clear c2
          try clear p2
          try clear c3
          try clear c3b0
          try clear c3b1
          try clear c4
          try clear p2
          obtain ⟨x5_2, rfl, HA, HK2, HB⟩ := hrel
          cases gk with
          | zero => exact absurd HA.out (by simp [impl_TakePeriod.l0])
          | succ k2 =>
            have H := HA.out
            clear HA
            simp only [impl_TakePeriod.l0] at H
            replace H := Option.bind_eq_some_iff.mp H
            obtain ⟨t242, A50, H⟩ := H
            replace H : (if t242 = true then ((impl_takeValues.f k2 a0 500).bind fun t243 => (impl_TakePeriod.l1 k2 x5_2 t243 0)) else (impl_TakePeriod.l0 k2 a0 (wrap64 (x5_2 - 1)))) = some (r1, r2, r3) := H
            have A5 := Aside0.mk A50
            clear A50
            by_cases c6 : t242 = true
            · subst c6
              have H1 : ((impl_takeValues.f k2 a0 500).bind fun t243 => (impl_TakePeriod.l1 k2 x5_2 t243 0)) = some (r1, r2, r3) := by rw [if_pos rfl] at H; exact H
              clear H
              have H := H1
              clear H1
              replace H := Option.bind_eq_some_iff.mp H
              obtain ⟨t243, A70, H⟩ := H
              replace H : (impl_TakePeriod.l1 k2 x5_2 t243 0) = some (r1, r2, r3) := H
              have A7 := Aside0.mk A70
              clear A70
              have H' := Aside0.mk H
              clear H
              go_wp2_with (first | (go_at_call 65; (with_reducible refine (impl_mayTake.calls a0 x5_2 true _ A5.out).mono ?_); rintro e w' ⟨rfl, ⟨nd, rfl⟩⟩; (try first | exact ⟨rfl, _, World.drewN_drewN _ _ _⟩ | exact ⟨rfl, _, Eq.trans (World.drewN_drewN _ _ _) (congrArg (World.drewN _) (Nat.add_assoc _ _ _))⟩)) | (go_at_call 63; (with_reducible refine (impl_takeValues.calls k2 a0 500 t243 _ A7.out).mono ?_); rintro e w8 ⟨v244, rfl, ho0, hb⟩; have n0_ := Aside0.mk (Kd.R_lower ho0 (below_size (by repeat (first | (with_reducible first | exact HB.out | apply below_alloc | apply pw_below_drewN | apply below_drew1) | exact HB.out)))); have n1_ := Aside0.mk (below_step (by repeat (first | (with_reducible first | exact HB.out | apply below_alloc | apply pw_below_drewN | apply below_drew1) | exact HB.out)) hb); clear HB; have HO245 := n0_; have HB := n1_; clear n0_ n1_; (try clear hb); (try clear hb2); (try clear hk); (try clear hi); (try clear ho0)))
              repeat (go_quiet (first | (go_at_call 65; (with_reducible refine (impl_mayTake.calls a0 x5_2 true _ A5.out).mono ?_); rintro e w' ⟨rfl, ⟨nd, rfl⟩⟩; (try first | exact ⟨rfl, _, World.drewN_drewN _ _ _⟩ | exact ⟨rfl, _, Eq.trans (World.drewN_drewN _ _ _) (congrArg (World.drewN _) (Nat.add_assoc _ _ _))⟩)) | (go_at_call 63; (with_reducible refine (impl_takeValues.calls k2 a0 500 t243 _ A7.out).mono ?_); rintro e w8 ⟨v244, rfl, ho0, hb⟩; have n0_ := Aside0.mk (Kd.R_lower ho0 (below_size (by repeat (first | (with_reducible first | exact HB.out | apply below_alloc | apply pw_below_drewN | apply below_drew1) | exact HB.out)))); have n1_ := Aside0.mk (below_step (by repeat (first | (with_reducible first | exact HB.out | apply below_alloc | apply pw_below_drewN | apply below_drew1) | exact HB.out)) hb); clear HB; have HO245 := n0_; have HB := n1_; clear n0_ n1_; (try clear hb); (try clear hb2); (try clear hk); (try clear hi); (try clear ho0))); try go_wp2_with (first | (go_at_call 65; (with_reducible refine (impl_mayTake.calls a0 x5_2 true _ A5.out).mono ?_); rintro e w' ⟨rfl, ⟨nd, rfl⟩⟩; (try first | exact ⟨rfl, _, World.drewN_drewN _ _ _⟩ | exact ⟨rfl, _, Eq.trans (World.drewN_drewN _ _ _) (congrArg (World.drewN _) (Nat.add_assoc _ _ _))⟩)) | (go_at_call 63; (with_reducible refine (impl_takeValues.calls k2 a0 500 t243 _ A7.out).mono ?_); rintro e w8 ⟨v244, rfl, ho0, hb⟩; have n0_ := Aside0.mk (Kd.R_lower ho0 (below_size (by repeat (first | (with_reducible first | exact HB.out | apply below_alloc | apply pw_below_drewN | apply below_drew1) | exact HB.out)))); have n1_ := Aside0.mk (below_step (by repeat (first | (with_reducible first | exact HB.out | apply below_alloc | apply pw_below_drewN | apply below_drew1) | exact HB.out)) hb); clear HB; have HO245 := n0_; have HB := n1_; clear n0_ n1_; (try clear hb); (try clear hb2); (try clear hk); (try clear hi); (try clear ho0))))
              go_loopg [7] k2 (fun kq v7 w' => ∃ (x7_3 : Int), v7 = .int .i64 x7_3 ∧ Aside0 (impl_TakePeriod.l1 kq x5_2 t243 x7_3 = some (r1, r2, r3)) ∧ Aside0 (kq ≤ k2) ∧ Aside0 (Kd.R (Kd.int .u16) 44 w' w.heap.size (fun _ => True) v244 t243) ∧ Aside0 (Below w.heap.size w w'))
              case atStart => exact ⟨(0), (by first | rfl | (simp; done) | (simp [*]; done)), H', ⟨Nat.le_refl _⟩, ⟨by (with_reducible repeat (first | apply Kd.R_alloc | apply Kd.R_drewN | apply Kd.R_drew)); exact HO245.out⟩, ⟨by repeat (first | (with_reducible first | exact HB.out | apply below_alloc | apply pw_below_drewN | apply below_drew1) | exact HB.out)⟩⟩
              case round =>
                clear H'
                try clear c2
                try clear p2
                try clear c3
                try clear c3b0
                try clear c3b1
                try clear c4
                try clear c6
                try clear p6
                try clear p2
                obtain ⟨x7_3, rfl, HA, HK3, HO_6, HB⟩ := hrel
                cases gk with
                | zero => exact absurd HA.out (by simp [impl_TakePeriod.l1])
                | succ k3 =>
                  have H := HA.out
                  clear HA
                  simp only [impl_TakePeriod.l1] at H
                  by_cases c9 : (wrap64 ((wrap64 (x7_3 + 1)) + x5_2)) ≤ 500
                  · rw [if_pos c9] at H
                    have c9b0 : decide ((wrap64 ((wrap64 (x7_3 + 1)) + x5_2)) ≤ 500) = true := decide_eq_true c9
                    clear c9
                    have H' := Aside0.mk H
                    clear H
                    go_wp2
                    repeat (go_quiet (fail); try go_wp2)
                    go_loopg [8] k3 (fun kq v8 w' => ∃ (x8_4 : Int), v8 = .int .i64 x8_4 ∧ Aside0 (impl_TakePeriod.l2 kq x5_2 t243 x7_3 x8_4 = some (r1, r2, r3)) ∧ Aside0 (kq ≤ k3) ∧ Aside0 (Kd.R (Kd.int .u16) 44 w' w.heap.size (fun _ => True) v244 t243) ∧ Aside0 (Below w.heap.size w w'))
                    case atStart => exact ⟨(1), (by first | rfl | (simp; done) | (simp [*]; done)), H', ⟨Nat.le_refl _⟩, ⟨by (with_reducible repeat (first | apply Kd.R_alloc | apply Kd.R_drewN | apply Kd.R_drew)); exact HO_6.out⟩, ⟨by repeat (first | (with_reducible first | exact HB.out | apply below_alloc | apply pw_below_drewN | apply below_drew1) | exact HB.out)⟩⟩
                    case round =>
                      clear H'
                      try clear c2
                      try clear p2
                      try clear c3
                      try clear c3b0
                      try clear c3b1
                      try clear c4
                      try clear c6
                      try clear p6
                      try clear c9
                      try clear c9b0
                      try clear p2
                      try clear p6
                      obtain ⟨x8_4, rfl, HA, HK4, HO_6, HB⟩ := hrel
                      cases gk with
                      | zero => exact absurd HA.out (by simp [impl_TakePeriod.l2])
                      | succ k4 =>
                        have H := HA.out
                        clear HA
                        simp only [impl_TakePeriod.l2] at H
                        by_cases c10 : (wrap64 ((wrap64 (x7_3 + x8_4)) + x5_2)) ≤ 500
                        · rw [if_pos c10] at H
                          have c10b0 : decide ((wrap64 ((wrap64 (x7_3 + x8_4)) + x5_2)) ≤ 500) = true := decide_eq_true c10
                          clear c10
                          by_cases c11 : 0 ≤ x7_3
                          · rw [if_pos c11] at H
                            have c11b0 := eq_true c11
                            have c11b1 : decide (0 ≤ x7_3) = true := decide_eq_true c11
                            clear c11
                            by_cases c12 : x7_3 ≤ (wrap64 (x7_3 + x5_2))
                            · rw [if_pos c12] at H
                              have c12b0 := eq_true c12
                              have c12b1 : decide (x7_3 ≤ (wrap64 (x7_3 + x5_2))) = true := decide_eq_true c12
                              by_cases c13 : (wrap64 (x7_3 + x5_2)) ≤ (t243.length : Int)
                              · rw [if_pos c13] at H
                                have c13b0 := eq_true c13
                                have c13b1 : decide ((wrap64 (x7_3 + x5_2)) ≤ (t243.length : Int)) = true := decide_eq_true c13
                                obtain ⟨y246, hy246⟩ : ∃ y_ : List Int, y_ = ((t243.take ((wrap64 (x7_3 + x5_2)) : Int).toNat).drop (x7_3 : Int).toNat) := ⟨_, rfl⟩
                                replace H : (if 0 ≤ (wrap64 (x7_3 + x8_4)) then (if (wrap64 (x7_3 + x8_4)) ≤ (wrap64 ((wrap64 (x7_3 + x8_4)) + x5_2)) then (if (wrap64 ((wrap64 (x7_3 + x8_4)) + x5_2)) ≤ (t243.length : Int) then ((impl_Nimber.f k4 y246 ((t243.take ((wrap64 ((wrap64 (x7_3 + x8_4)) + x5_2)) : Int).toNat).drop ((wrap64 (x7_3 + x8_4)) : Int).toNat)).bind fun t254 => (if t254 = true then (some (x7_3, x8_4, 0)) else (impl_TakePeriod.l2 k4 x5_2 t243 x7_3 (wrap64 (x8_4 + 1))))) else (none)) else (none)) else (none)) = some (r1, r2, r3) := by first | (rw [hy246]; with_reducible exact H) | (have H2_ := (Option.bind_some _ _).symm.trans H; rw [hy246]; with_reducible exact H2_) | (have H2_ := (Option.bind_some _ _).symm.trans H; with_reducible exact H2_) | with_reducible exact H | (rw [hy246]; exact H) | exact H
                                have Ny246 := Aside0.mk hy246
                                clear hy246
                                obtain ⟨ji14, hji14⟩ : ∃ j_ : Int, (wrap64 (x7_3 + x8_4)) = j_ := ⟨_, rfl⟩
                                replace H : (if 0 ≤ (ji14) then (if (ji14) ≤ (wrap64 ((ji14) + x5_2)) then (if (wrap64 ((ji14) + x5_2)) ≤ (t243.length : Int) then ((impl_Nimber.f k4 y246 ((t243.take ((wrap64 ((ji14) + x5_2)) : Int).toNat).drop ((ji14) : Int).toNat)).bind fun t254 => (if t254 = true then (some (x7_3, x8_4, 0)) else (impl_TakePeriod.l2 k4 x5_2 t243 x7_3 (wrap64 (x8_4 + 1))))) else (none)) else (none)) else (none)) = some (r1, r2, r3) := by first | (rw [hji14] at H; exact H) | (simp only [hji14] at H ⊢; exact H)
                                (try rw [hji14] at c10b0)
                                have hji14w : (IntKind.i64.wrap (x7_3 + x8_4)) = ji14 := (i64_w _).trans hji14
                                by_cases c15 : 0 ≤ (ji14)
                                · rw [if_pos c15] at H
                                  have c15b0 := eq_true c15
                                  have c15b1 : decide (0 ≤ (ji14)) = true := decide_eq_true c15
                                  clear c15
                                  by_cases c16 : (ji14) ≤ (wrap64 ((ji14) + x5_2))
                                  · rw [if_pos c16] at H
                                    have c16b0 := eq_true c16
                                    have c16b1 : decide ((ji14) ≤ (wrap64 ((ji14) + x5_2))) = true := decide_eq_true c16
                                    by_cases c17 : (wrap64 ((ji14) + x5_2)) ≤ (t243.length : Int)
                                    · rw [if_pos c17] at H
                                      have c17b0 := eq_true c17
                                      have c17b1 : decide ((wrap64 ((ji14) + x5_2)) ≤ (t243.length : Int)) = true := decide_eq_true c17
                                      obtain ⟨y250, hy250⟩ : ∃ y_ : List Int, y_ = ((t243.take ((wrap64 ((ji14) + x5_2)) : Int).toNat).drop ((ji14) : Int).toNat) := ⟨_, rfl⟩
                                      replace H : ((impl_Nimber.f k4 y246 y250).bind fun t254 => (if t254 = true then (some (x7_3, x8_4, 0)) else (impl_TakePeriod.l2 k4 x5_2 t243 x7_3 (wrap64 (x8_4 + 1))))) = some (r1, r2, r3) := by first | (rw [hy250]; with_reducible exact H) | (have H2_ := (Option.bind_some _ _).symm.trans H; rw [hy250]; with_reducible exact H2_) | (have H2_ := (Option.bind_some _ _).symm.trans H; with_reducible exact H2_) | with_reducible exact H | (rw [hy250]; exact H) | exact H
                                      have Ny250 := Aside0.mk hy250
                                      clear hy250
                                      replace H := Option.bind_eq_some_iff.mp H
                                      obtain ⟨t254, A180, H⟩ := H
                                      replace H : (if t254 = true then (some (x7_3, x8_4, 0)) else (impl_TakePeriod.l2 k4 x5_2 t243 x7_3 (wrap64 (x8_4 + 1)))) = some (r1, r2, r3) := H
                                      have A18 := Aside0.mk A180
                                      clear A180
                                      by_cases c19 : t254 = true
                                      · subst c19
                                        have H1 : (some (x7_3, x8_4, 0)) = some (r1, r2, r3) := by rw [if_pos rfl] at H; exact H
                                        clear H
                                        have H := H1
                                        clear H1
                                        simp only [Option.some.injEq, Prod.mk.injEq] at H
                                        obtain ⟨rfl, rfl, rfl⟩ := H
                                        obtain ⟨Ao21, co21, eo21⟩ := Kd.R_slice HO_6.out
                                        subst eo21
                                        have q20 : ((wrap64 (x7_3 + x5_2)) : Int) ≤ ((t243.length : Int) : Int) := of_decide_eq_true (by first | (with_reducible assumption) | assumption)
                                        obtain ⟨i020, hi020, _, hsz20, _⟩ := info_parts info44
                                        have hroom20 : t243.length ≤ co21 := (Kd.R_reads' HO_6.out).2.1
                                        have hC20 : Kd.C (Kd.int .u16) _ Ao21 t243.length t243 := (Kd.R_reads' HO_6.out).2.2
                                        have ql20 : (x7_3 : Int) ≤ ((wrap64 (x7_3 + x5_2)) : Int) := of_decide_eq_true (by first | (with_reducible assumption) | assumption)
                                        have q020 : (0 : Int) ≤ (x7_3 : Int) := of_decide_eq_true (by first | (with_reducible assumption) | assumption)
                                        have hcut20 := cut_mid (P := Try.prog) 37 44 .i64 .i64 Try.underlying37 hi020 1 hsz20 Ao21 t243.length co21 x7_3 (wrap64 (x7_3 + x5_2)) q020 ql20 q20 hroom20
                                        have hr20 := Kd.C_mid (lo := (x7_3 : Int).toNat) (hi := ((wrap64 (x7_3 + x5_2)) : Int).toNat) (c := co21) hC20 (by omega) (by omega) hroom20
                                        obtain ⟨A20, hA20⟩ : ∃ A1, A1 = (if co21 = (x7_3 : Int).toNat then Ao21 else (Ao21 : Option Addr).map (·.add ((x7_3 : Int).toNat * 1))) := ⟨_, rfl⟩
                                        obtain ⟨c20, hc20⟩ : ∃ c1, c1 = co21 - (x7_3 : Int).toNat := ⟨_, rfl⟩
                                        have hy20 : y246.length = ((wrap64 (x7_3 + x5_2)) : Int).toNat - (x7_3 : Int).toNat := (by rw [Ny246.out, List.length_drop, List.length_take] <;> omega)
                                        rw [show ((t243).take ((wrap64 (x7_3 + x5_2)) : Int).toNat).drop (x7_3 : Int).toNat = y246 from Ny246.out.symm] at hr20
                                        replace hr20 : Kd.C (Kd.int .u16) _ A20 y246.length y246 := (by rw [hA20]; exact hr20)
                                        rw [← hy20, ← hA20, ← hc20] at hcut20
                                        have HR249 := Aside0.mk hr20
                                        have HC249 := Aside0.mk (show y246.length ≤ c20 from by rw [hy20, hc20]; exact Nat.sub_le_sub_right (Nat.le_trans (by omega) hroom20) _)
                                        clear hr20 hC20 hroom20 hi020 hsz20 hc20
                                        have KY20 := Aside0.mk hy20
                                        have KA20 := Aside0.mk hA20
                                        clear hy20 hA20
                                        have KL20 := Aside0.mk (show ((wrap64 (x7_3 + x5_2)) : Int).toNat ≤ t243.length from by omega)
                                        have KM20 := Aside0.mk (show (x7_3 : Int).toNat ≤ ((wrap64 (x7_3 + x5_2)) : Int).toNat from by omega)
                                        replace q20 := eq_true q20
                                        have q22 : ((wrap64 ((ji14) + x5_2)) : Int) ≤ ((t243.length : Int) : Int) := of_decide_eq_true (by first | (with_reducible assumption) | assumption)
                                        obtain ⟨i022, hi022, _, hsz22, _⟩ := info_parts info44
                                        have hroom22 : t243.length ≤ co21 := (Kd.R_reads' HO_6.out).2.1
                                        have hC22 : Kd.C (Kd.int .u16) _ Ao21 t243.length t243 := (Kd.R_reads' HO_6.out).2.2
                                        have ql22 : ((ji14) : Int) ≤ ((wrap64 ((ji14) + x5_2)) : Int) := of_decide_eq_true (by first | (with_reducible assumption) | assumption)
                                        have q022 : (0 : Int) ≤ ((ji14) : Int) := of_decide_eq_true (by first | (with_reducible assumption) | assumption)
                                        have hcut22 := cut_mid (P := Try.prog) 37 44 .i64 .i64 Try.underlying37 hi022 1 hsz22 Ao21 t243.length co21 (ji14) (wrap64 ((ji14) + x5_2)) q022 ql22 q22 hroom22
                                        have hr22 := Kd.C_mid (lo := ((ji14) : Int).toNat) (hi := ((wrap64 ((ji14) + x5_2)) : Int).toNat) (c := co21) hC22 (by omega) (by omega) hroom22
                                        obtain ⟨A22, hA22⟩ : ∃ A1, A1 = (if co21 = ((ji14) : Int).toNat then Ao21 else (Ao21 : Option Addr).map (·.add (((ji14) : Int).toNat * 1))) := ⟨_, rfl⟩
                                        obtain ⟨c22, hc22⟩ : ∃ c1, c1 = co21 - ((ji14) : Int).toNat := ⟨_, rfl⟩
                                        have hy22 : y250.length = ((wrap64 ((ji14) + x5_2)) : Int).toNat - ((ji14) : Int).toNat := (by rw [Ny250.out, List.length_drop, List.length_take] <;> omega)
                                        rw [show ((t243).take ((wrap64 ((ji14) + x5_2)) : Int).toNat).drop ((ji14) : Int).toNat = y250 from Ny250.out.symm] at hr22
                                        replace hr22 : Kd.C (Kd.int .u16) _ A22 y250.length y250 := (by rw [hA22]; exact hr22)
                                        rw [← hy22, ← hA22, ← hc22] at hcut22
                                        have HR253 := Aside0.mk hr22
                                        have HC253 := Aside0.mk (show y250.length ≤ c22 from by rw [hy22, hc22]; exact Nat.sub_le_sub_right (Nat.le_trans (by omega) hroom22) _)
                                        clear hr22 hC22 hroom22 hi022 hsz22 hc22
                                        have KY22 := Aside0.mk hy22
                                        have KA22 := Aside0.mk hA22
                                        clear hy22 hA22
                                        have KL22 := Aside0.mk (show ((wrap64 ((ji14) + x5_2)) : Int).toNat ≤ t243.length from by omega)
                                        have KM22 := Aside0.mk (show ((ji14) : Int).toNat ≤ ((wrap64 ((ji14) + x5_2)) : Int).toNat from by omega)
                                        replace q22 := eq_true q22
                                        go_wp2_with (first | (go_at_call 69; (with_reducible refine (impl_Nimber.calls k4 _ _ y246 _ _ y250 true _ ?side1 ?side2 ?side3 ?side4 A18.out).mono ?_); (case side1 => repeat (first | exact (by repeat (first | (with_reducible exact HR249.out) | (with_reducible refine Kd.C_alloc ?_ _) | (with_reducible refine Kd.C_drewN ?_ _) | (with_reducible refine Kd.C_drew ?_) | exact HR249.out)) | (with_reducible refine Kd.C_alloc ?_ _) | (with_reducible refine Kd.C_drewN ?_ _) | (with_reducible refine Kd.C_drew ?_))); (case side2 => exact HC249.out); (case side3 => repeat (first | exact (by repeat (first | (with_reducible exact HR253.out) | (with_reducible refine Kd.C_alloc ?_ _) | (with_reducible refine Kd.C_drewN ?_ _) | (with_reducible refine Kd.C_drew ?_) | exact HR253.out)) | (with_reducible refine Kd.C_alloc ?_ _) | (with_reducible refine Kd.C_drewN ?_ _) | (with_reducible refine Kd.C_drew ?_))); (case side4 => exact HC253.out); rintro e w' ⟨rfl, ⟨nd, rfl⟩⟩; (try first | exact ⟨rfl, _, World.drewN_drewN _ _ _⟩ | exact ⟨rfl, _, Eq.trans (World.drewN_drewN _ _ _) (congrArg (World.drewN _) (Nat.add_assoc _ _ _))⟩)))
                                        repeat (go_quiet (first | (go_at_call 69; (with_reducible refine (impl_Nimber.calls k4 _ _ y246 _ _ y250 true _ ?side1 ?side2 ?side3 ?side4 A18.out).mono ?_); (case side1 => repeat (first | exact (by repeat (first | (with_reducible exact HR249.out) | (with_reducible refine Kd.C_alloc ?_ _) | (with_reducible refine Kd.C_drewN ?_ _) | (with_reducible refine Kd.C_drew ?_) | exact HR249.out)) | (with_reducible refine Kd.C_alloc ?_ _) | (with_reducible refine Kd.C_drewN ?_ _) | (with_reducible refine Kd.C_drew ?_))); (case side2 => exact HC249.out); (case side3 => repeat (first | exact (by repeat (first | (with_reducible exact HR253.out) | (with_reducible refine Kd.C_alloc ?_ _) | (with_reducible refine Kd.C_drewN ?_ _) | (with_reducible refine Kd.C_drew ?_) | exact HR253.out)) | (with_reducible refine Kd.C_alloc ?_ _) | (with_reducible refine Kd.C_drewN ?_ _) | (with_reducible refine Kd.C_drew ?_))); (case side4 => exact HC253.out); rintro e w' ⟨rfl, ⟨nd, rfl⟩⟩; (try first | exact ⟨rfl, _, World.drewN_drewN _ _ _⟩ | exact ⟨rfl, _, Eq.trans (World.drewN_drewN _ _ _) (congrArg (World.drewN _) (Nat.add_assoc _ _ _))⟩))); try go_wp2_with (first | (go_at_call 69; (with_reducible refine (impl_Nimber.calls k4 _ _ y246 _ _ y250 true _ ?side1 ?side2 ?side3 ?side4 A18.out).mono ?_); (case side1 => repeat (first | exact (by repeat (first | (with_reducible exact HR249.out) | (with_reducible refine Kd.C_alloc ?_ _) | (with_reducible refine Kd.C_drewN ?_ _) | (with_reducible refine Kd.C_drew ?_) | exact HR249.out)) | (with_reducible refine Kd.C_alloc ?_ _) | (with_reducible refine Kd.C_drewN ?_ _) | (with_reducible refine Kd.C_drew ?_))); (case side2 => exact HC249.out); (case side3 => repeat (first | exact (by repeat (first | (with_reducible exact HR253.out) | (with_reducible refine Kd.C_alloc ?_ _) | (with_reducible refine Kd.C_drewN ?_ _) | (with_reducible refine Kd.C_drew ?_) | exact HR253.out)) | (with_reducible refine Kd.C_alloc ?_ _) | (with_reducible refine Kd.C_drewN ?_ _) | (with_reducible refine Kd.C_drew ?_))); (case side4 => exact HC253.out); rintro e w' ⟨rfl, ⟨nd, rfl⟩⟩; (try first | exact ⟨rfl, _, World.drewN_drewN _ _ _⟩ | exact ⟨rfl, _, Eq.trans (World.drewN_drewN _ _ _) (congrArg (World.drewN _) (Nat.add_assoc _ _ _))⟩))))
                                        go_ret3
                                        exact ⟨by first | rfl | (simp [errW_none, errW_some] <;> rfl) | (simp only [← hji14]; first | rfl | (simp [errW_none, errW_some] <;> rfl)) | (simp [*, errW_none, errW_some] <;> rfl), by repeat (first | (with_reducible first | exact HB.out | apply below_alloc | apply pw_below_drewN | apply below_drew1) | exact HB.out)⟩
                                      · replace c19 := Bool.eq_false_iff.mpr c19
                                        subst c19
                                        have H1 : (impl_TakePeriod.l2 k4 x5_2 t243 x7_3 (wrap64 (x8_4 + 1))) = some (r1, r2, r3) := by rw [if_neg (show ¬ (false = true) by decide)] at H; exact H
                                        clear H
                                        have H := H1
                                        clear H1
                                        have H' := Aside0.mk H
                                        clear H
                                        obtain ⟨Ao24, co24, eo24⟩ := Kd.R_slice HO_6.out
                                        subst eo24
                                        have q23 : ((wrap64 (x7_3 + x5_2)) : Int) ≤ ((t243.length : Int) : Int) := of_decide_eq_true (by first | (with_reducible assumption) | assumption)
                                        obtain ⟨i023, hi023, _, hsz23, _⟩ := info_parts info44
                                        have hroom23 : t243.length ≤ co24 := (Kd.R_reads' HO_6.out).2.1
                                        have hC23 : Kd.C (Kd.int .u16) _ Ao24 t243.length t243 := (Kd.R_reads' HO_6.out).2.2
                                        have ql23 : (x7_3 : Int) ≤ ((wrap64 (x7_3 + x5_2)) : Int) := of_decide_eq_true (by first | (with_reducible assumption) | assumption)
                                        have q023 : (0 : Int) ≤ (x7_3 : Int) := of_decide_eq_true (by first | (with_reducible assumption) | assumption)
                                        have hcut23 := cut_mid (P := Try.prog) 37 44 .i64 .i64 Try.underlying37 hi023 1 hsz23 Ao24 t243.length co24 x7_3 (wrap64 (x7_3 + x5_2)) q023 ql23 q23 hroom23
                                        have hr23 := Kd.C_mid (lo := (x7_3 : Int).toNat) (hi := ((wrap64 (x7_3 + x5_2)) : Int).toNat) (c := co24) hC23 (by omega) (by omega) hroom23
                                        obtain ⟨A23, hA23⟩ : ∃ A1, A1 = (if co24 = (x7_3 : Int).toNat then Ao24 else (Ao24 : Option Addr).map (·.add ((x7_3 : Int).toNat * 1))) := ⟨_, rfl⟩
                                        obtain ⟨c23, hc23⟩ : ∃ c1, c1 = co24 - (x7_3 : Int).toNat := ⟨_, rfl⟩
                                        have hy23 : y246.length = ((wrap64 (x7_3 + x5_2)) : Int).toNat - (x7_3 : Int).toNat := (by rw [Ny246.out, List.length_drop, List.length_take] <;> omega)
                                        rw [show ((t243).take ((wrap64 (x7_3 + x5_2)) : Int).toNat).drop (x7_3 : Int).toNat = y246 from Ny246.out.symm] at hr23
                                        replace hr23 : Kd.C (Kd.int .u16) _ A23 y246.length y246 := (by rw [hA23]; exact hr23)
                                        rw [← hy23, ← hA23, ← hc23] at hcut23
                                        have HR249 := Aside0.mk hr23
                                        have HC249 := Aside0.mk (show y246.length ≤ c23 from by rw [hy23, hc23]; exact Nat.sub_le_sub_right (Nat.le_trans (by omega) hroom23) _)
                                        clear hr23 hC23 hroom23 hi023 hsz23 hc23
                                        have KY23 := Aside0.mk hy23
                                        have KA23 := Aside0.mk hA23
                                        clear hy23 hA23
                                        have KL23 := Aside0.mk (show ((wrap64 (x7_3 + x5_2)) : Int).toNat ≤ t243.length from by omega)
                                        have KM23 := Aside0.mk (show (x7_3 : Int).toNat ≤ ((wrap64 (x7_3 + x5_2)) : Int).toNat from by omega)
                                        replace q23 := eq_true q23
                                        have q25 : ((wrap64 ((ji14) + x5_2)) : Int) ≤ ((t243.length : Int) : Int) := of_decide_eq_true (by first | (with_reducible assumption) | assumption)
                                        obtain ⟨i025, hi025, _, hsz25, _⟩ := info_parts info44
                                        have hroom25 : t243.length ≤ co24 := (Kd.R_reads' HO_6.out).2.1
                                        have hC25 : Kd.C (Kd.int .u16) _ Ao24 t243.length t243 := (Kd.R_reads' HO_6.out).2.2
                                        have ql25 : ((ji14) : Int) ≤ ((wrap64 ((ji14) + x5_2)) : Int) := of_decide_eq_true (by first | (with_reducible assumption) | assumption)
                                        have q025 : (0 : Int) ≤ ((ji14) : Int) := of_decide_eq_true (by first | (with_reducible assumption) | assumption)
                                        have hcut25 := cut_mid (P := Try.prog) 37 44 .i64 .i64 Try.underlying37 hi025 1 hsz25 Ao24 t243.length co24 (ji14) (wrap64 ((ji14) + x5_2)) q025 ql25 q25 hroom25
                                        have hr25 := Kd.C_mid (lo := ((ji14) : Int).toNat) (hi := ((wrap64 ((ji14) + x5_2)) : Int).toNat) (c := co24) hC25 (by omega) (by omega) hroom25
                                        obtain ⟨A25, hA25⟩ : ∃ A1, A1 = (if co24 = ((ji14) : Int).toNat then Ao24 else (Ao24 : Option Addr).map (·.add (((ji14) : Int).toNat * 1))) := ⟨_, rfl⟩
                                        obtain ⟨c25, hc25⟩ : ∃ c1, c1 = co24 - ((ji14) : Int).toNat := ⟨_, rfl⟩
                                        have hy25 : y250.length = ((wrap64 ((ji14) + x5_2)) : Int).toNat - ((ji14) : Int).toNat := (by rw [Ny250.out, List.length_drop, List.length_take] <;> omega)
                                        rw [show ((t243).take ((wrap64 ((ji14) + x5_2)) : Int).toNat).drop ((ji14) : Int).toNat = y250 from Ny250.out.symm] at hr25
                                        replace hr25 : Kd.C (Kd.int .u16) _ A25 y250.length y250 := (by rw [hA25]; exact hr25)
                                        rw [← hy25, ← hA25, ← hc25] at hcut25
                                        have HR253 := Aside0.mk hr25
                                        have HC253 := Aside0.mk (show y250.length ≤ c25 from by rw [hy25, hc25]; exact Nat.sub_le_sub_right (Nat.le_trans (by omega) hroom25) _)
                                        clear hr25 hC25 hroom25 hi025 hsz25 hc25
                                        have KY25 := Aside0.mk hy25
                                        have KA25 := Aside0.mk hA25
                                        clear hy25 hA25
                                        have KL25 := Aside0.mk (show ((wrap64 ((ji14) + x5_2)) : Int).toNat ≤ t243.length from by omega)
                                        have KM25 := Aside0.mk (show ((ji14) : Int).toNat ≤ ((wrap64 ((ji14) + x5_2)) : Int).toNat from by omega)
                                        replace q25 := eq_true q25
                                        go_wp2_with (first | (go_at_call 69; (with_reducible refine (impl_Nimber.calls k4 _ _ y246 _ _ y250 false _ ?side1 ?side2 ?side3 ?side4 A18.out).mono ?_); (case side1 => repeat (first | exact (by repeat (first | (with_reducible exact HR249.out) | (with_reducible refine Kd.C_alloc ?_ _) | (with_reducible refine Kd.C_drewN ?_ _) | (with_reducible refine Kd.C_drew ?_) | exact HR249.out)) | (with_reducible refine Kd.C_alloc ?_ _) | (with_reducible refine Kd.C_drewN ?_ _) | (with_reducible refine Kd.C_drew ?_))); (case side2 => exact HC249.out); (case side3 => repeat (first | exact (by repeat (first | (with_reducible exact HR253.out) | (with_reducible refine Kd.C_alloc ?_ _) | (with_reducible refine Kd.C_drewN ?_ _) | (with_reducible refine Kd.C_drew ?_) | exact HR253.out)) | (with_reducible refine Kd.C_alloc ?_ _) | (with_reducible refine Kd.C_drewN ?_ _) | (with_reducible refine Kd.C_drew ?_))); (case side4 => exact HC253.out); rintro e w' ⟨rfl, ⟨nd, rfl⟩⟩; (try first | exact ⟨rfl, _, World.drewN_drewN _ _ _⟩ | exact ⟨rfl, _, Eq.trans (World.drewN_drewN _ _ _) (congrArg (World.drewN _) (Nat.add_assoc _ _ _))⟩)))
                                        repeat (go_quiet (first | (go_at_call 69; (with_reducible refine (impl_Nimber.calls k4 _ _ y246 _ _ y250 false _ ?side1 ?side2 ?side3 ?side4 A18.out).mono ?_); (case side1 => repeat (first | exact (by repeat (first | (with_reducible exact HR249.out) | (with_reducible refine Kd.C_alloc ?_ _) | (with_reducible refine Kd.C_drewN ?_ _) | (with_reducible refine Kd.C_drew ?_) | exact HR249.out)) | (with_reducible refine Kd.C_alloc ?_ _) | (with_reducible refine Kd.C_drewN ?_ _) | (with_reducible refine Kd.C_drew ?_))); (case side2 => exact HC249.out); (case side3 => repeat (first | exact (by repeat (first | (with_reducible exact HR253.out) | (with_reducible refine Kd.C_alloc ?_ _) | (with_reducible refine Kd.C_drewN ?_ _) | (with_reducible refine Kd.C_drew ?_) | exact HR253.out)) | (with_reducible refine Kd.C_alloc ?_ _) | (with_reducible refine Kd.C_drewN ?_ _) | (with_reducible refine Kd.C_drew ?_))); (case side4 => exact HC253.out); rintro e w' ⟨rfl, ⟨nd, rfl⟩⟩; (try first | exact ⟨rfl, _, World.drewN_drewN _ _ _⟩ | exact ⟨rfl, _, Eq.trans (World.drewN_drewN _ _ _) (congrArg (World.drewN _) (Nat.add_assoc _ _ _))⟩))); try go_wp2_with (first | (go_at_call 69; (with_reducible refine (impl_Nimber.calls k4 _ _ y246 _ _ y250 false _ ?side1 ?side2 ?side3 ?side4 A18.out).mono ?_); (case side1 => repeat (first | exact (by repeat (first | (with_reducible exact HR249.out) | (with_reducible refine Kd.C_alloc ?_ _) | (with_reducible refine Kd.C_drewN ?_ _) | (with_reducible refine Kd.C_drew ?_) | exact HR249.out)) | (with_reducible refine Kd.C_alloc ?_ _) | (with_reducible refine Kd.C_drewN ?_ _) | (with_reducible refine Kd.C_drew ?_))); (case side2 => exact HC249.out); (case side3 => repeat (first | exact (by repeat (first | (with_reducible exact HR253.out) | (with_reducible refine Kd.C_alloc ?_ _) | (with_reducible refine Kd.C_drewN ?_ _) | (with_reducible refine Kd.C_drew ?_) | exact HR253.out)) | (with_reducible refine Kd.C_alloc ?_ _) | (with_reducible refine Kd.C_drewN ?_ _) | (with_reducible refine Kd.C_drew ?_))); (case side4 => exact HC253.out); rintro e w' ⟨rfl, ⟨nd, rfl⟩⟩; (try first | exact ⟨rfl, _, World.drewN_drewN _ _ _⟩ | exact ⟨rfl, _, Eq.trans (World.drewN_drewN _ _ _) (congrArg (World.drewN _) (Nat.add_assoc _ _ _))⟩))))
                                        go_roundg k4
                                        case measure => have := HJ1.out; have := HK2.out; have := HK3.out; have := HK4.out; omega
                                        case rel => exact ⟨(wrap64 (x8_4 + 1)), (by first | rfl | (simp; done) | (simp [*]; done)), H', ⟨by have := HJ1.out; have := HK2.out; have := HK3.out; have := HK4.out; omega⟩, ⟨by (with_reducible repeat (first | apply Kd.R_alloc | apply Kd.R_drewN | apply Kd.R_drew)); exact HO_6.out⟩, ⟨by repeat (first | (with_reducible first | exact HB.out | apply below_alloc | apply pw_below_drewN | apply below_drew1) | exact HB.out)⟩⟩
                                    · rw [if_neg c17] at H
                                      exact absurd H (by simp)
                                  · rw [if_neg c16] at H
                                    exact absurd H (by simp)
                                · rw [if_neg c15] at H
                                  exact absurd H (by simp)
                              · rw [if_neg c13] at H
                                exact absurd H (by simp)
                            · rw [if_neg c12] at H
                              exact absurd H (by simp)
                          · rw [if_neg c11] at H
                            exact absurd H (by simp)
                        · rw [if_neg c10] at H
                          have c10b0 : decide ((wrap64 ((wrap64 (x7_3 + x8_4)) + x5_2)) ≤ 500) = false := decide_eq_false c10
                          clear c10
                          have H' := Aside0.mk H
                          clear H
                          go_wp2
                          repeat (go_quiet (fail); try go_wp2)
                          go_roundg k4
                          case measure => have := HJ1.out; have := HK2.out; have := HK3.out; have := HK4.out; omega
                          case rel => exact ⟨(wrap64 (x7_3 + 1)), (by first | rfl | (simp; done) | (simp [*]; done)), H', ⟨by have := HJ1.out; have := HK2.out; have := HK3.out; have := HK4.out; omega⟩, ⟨by (with_reducible repeat (first | apply Kd.R_alloc | apply Kd.R_drewN | apply Kd.R_drew)); exact HO_6.out⟩, ⟨by repeat (first | (with_reducible first | exact HB.out | apply below_alloc | apply pw_below_drewN | apply below_drew1) | exact HB.out)⟩⟩
                  · rw [if_neg c9] at H
                    have c9b0 : decide ((wrap64 ((wrap64 (x7_3 + 1)) + x5_2)) ≤ 500) = false := decide_eq_false c9
                    clear c9
                    simp only [Option.some.injEq, Prod.mk.injEq] at H
                    obtain ⟨rfl, rfl, rfl⟩ := H
                    go_wp2
                    repeat (go_quiet (fail); try go_wp2)
                    go_ret3
                    exact ⟨by first | rfl | (simp [errW_none, errW_some] <;> rfl) | (simp [*, errW_none, errW_some] <;> rfl), by repeat (first | (with_reducible first | exact HB.out | apply below_alloc | apply pw_below_drewN | apply below_drew1) | exact HB.out)⟩
            · replace c6 := Bool.eq_false_iff.mpr c6
              subst c6
              have H1 : (impl_TakePeriod.l0 k2 a0 (wrap64 (x5_2 - 1))) = some (r1, r2, r3) := by rw [if_neg (show ¬ (false = true) by decide)] at H; exact H
              clear H
              have H := H1
              clear H1
              have H' := Aside0.mk H
              clear H
              go_wp2_with (first | (go_at_call 65; (with_reducible refine (impl_mayTake.calls a0 x5_2 false _ A5.out).mono ?_); rintro e w' ⟨rfl, ⟨nd, rfl⟩⟩; (try first | exact ⟨rfl, _, World.drewN_drewN _ _ _⟩ | exact ⟨rfl, _, Eq.trans (World.drewN_drewN _ _ _) (congrArg (World.drewN _) (Nat.add_assoc _ _ _))⟩)))
              repeat (go_quiet (first | (go_at_call 65; (with_reducible refine (impl_mayTake.calls a0 x5_2 false _ A5.out).mono ?_); rintro e w' ⟨rfl, ⟨nd, rfl⟩⟩; (try first | exact ⟨rfl, _, World.drewN_drewN _ _ _⟩ | exact ⟨rfl, _, Eq.trans (World.drewN_drewN _ _ _) (congrArg (World.drewN _) (Nat.add_assoc _ _ _))⟩))); try go_wp2_with (first | (go_at_call 65; (with_reducible refine (impl_mayTake.calls a0 x5_2 false _ A5.out).mono ?_); rintro e w' ⟨rfl, ⟨nd, rfl⟩⟩; (try first | exact ⟨rfl, _, World.drewN_drewN _ _ _⟩ | exact ⟨rfl, _, Eq.trans (World.drewN_drewN _ _ _) (congrArg (World.drewN _) (Nat.add_assoc _ _ _))⟩))))
              go_roundg k2
              case measure => have := HJ1.out; have := HK2.out; omega
              case rel => exact ⟨(wrap64 (x5_2 - 1)), (by first | rfl | (simp; done) | (simp [*]; done)), H', ⟨by have := HJ1.out; have := HK2.out; omega⟩, ⟨by repeat (first | (with_reducible first | exact HB.out | apply below_alloc | apply pw_below_drewN | apply below_drew1) | exact HB.out)⟩⟩

/-! ### spec_l03Alike: function 70 -/
def spec_l03Alike.l0 : Nat → List Int → Int → Int → Int → Int → Option (Bool)
  | 0, _, _, _, _, _ => none
  | k + 1, x0, x1, x2, x3, x9 => if x9 < (wrap64 (x1 + x3)) then (if 0 ≤ x9 then (if x9 < (x0.length : Int) then (if 0 ≤ (wrap64 (x9 + x2)) then (if (wrap64 (x9 + x2)) < (x0.length : Int) then (if (rd x0 x9) = (rd x0 (wrap64 (x9 + x2))) then (spec_l03Alike.l0 k x0 x1 x2 x3 (wrap64 (x9 + 1))) else (some false)) else (none)) else (none)) else (none)) else (none)) else (some true)
def spec_l03Alike.f (k : Nat) (l0 : List Int) (a1 : Int) (a2 : Int) (a3 : Int) : Option (Bool) := spec_l03Alike.l0 k l0 a1 a2 a3 a1
theorem spec_l03Alike.mono_l : ∀ k, (∀ y0 y1 y2 y3 y4, LeO (spec_l03Alike.l0 k y0 y1 y2 y3 y4) (spec_l03Alike.l0 (k + 1) y0 y1 y2 y3 y4))
  | 0 => fun _ _ _ _ _ r h => by simp [spec_l03Alike.l0] at h
  | k + 1 => by
    have ih0 := spec_l03Alike.mono_l k
    · intro y0 y1 y2 y3 y4
      unfold spec_l03Alike.l0
      repeat' first
      | (with_reducible exact ih0 _ _ _ _ _)
      | (with_reducible exact LeO.refl _)
      | (with_reducible exact LeO.none _)
      | (with_reducible refine LeO.ite ?_ ?_)
      | (with_reducible refine LeO.bind ?_ (fun _ => ?_))
      | exact ih0 _ _ _ _ _
      | exact LeO.none _
      | refine LeO.ite ?_ ?_
      | refine LeO.bind ?_ (fun _ => ?_)
theorem spec_l03Alike.mono : ∀ a0 a1 a2 a3 k, LeO (spec_l03Alike.f k a0 a1 a2 a3) (spec_l03Alike.f (k + 1) a0 a1 a2 a3) := by
  intro a0 a1 a2 a3 k
  have ih0 := spec_l03Alike.mono_l k
  unfold spec_l03Alike.f
  repeat' first
      | (with_reducible exact ih0 _ _ _ _ _)
      | (with_reducible exact LeO.refl _)
      | (with_reducible exact LeO.none _)
      | (with_reducible refine LeO.ite ?_ ?_)
      | (with_reducible refine LeO.bind ?_ (fun _ => ?_))
      | exact ih0 _ _ _ _ _
      | exact LeO.none _
      | refine LeO.ite ?_ ?_
      | refine LeO.bind ?_ (fun _ => ?_)
set_option maxHeartbeats 8000000 in
set_option maxRecDepth 100000 in
theorem spec_l03Alike.calls (k : Nat) (A0 : Option Addr) (c0 : Nat) (l0 : List Int) (a1 : Int) (a2 : Int) (a3 : Int) (r : Bool) (w : World) (hr0 : Kd.C (Kd.int .u16) w A0 l0.length l0) (hc0 : l0.length ≤ c0) (h : spec_l03Alike.f k l0 a1 a2 a3 = some r) :
    Calls Try.prog 70 #[.slice A0 l0.length c0, .int .i64 a1, .int .i64 a2, .int .i64 a3] w fun e w' => e = .returned (.bool r) ∧ Drawn0 w w' := by
  have HR0 := Aside0.mk hr0
  have HC0 := Aside0.mk hc0
  clear hr0 hc0
  have H : (spec_l03Alike.l0 k l0 a1 a2 a3 a1) = some r := h
  clear h
  have H' := Aside0.mk H
  clear H
  go_enter Try.func70, Try.ntmps70
  go_wp2
  repeat (go_quiet (fail); try go_wp2)
  go_loopg [9] k (fun kq v9 w' => ∃ (x9_1 : Int), v9 = .int .i64 x9_1 ∧ Aside0 (spec_l03Alike.l0 kq l0 a1 a2 a3 x9_1 = some r) ∧ Aside0 (kq ≤ k) ∧ Drawn0 w w')
  case atStart => exact ⟨(a1), (by first | rfl | (simp; done) | (simp [*]; done)), H', ⟨Nat.le_refl _⟩, by repeat (first | exact Drawn0.refl _ | apply Drawn0.step)⟩
  case round =>
    clear H'
    try clear p2
    obtain ⟨x9_1, rfl, HA, HK1, ⟨m1, rfl⟩⟩ := hrel
    cases gk with
    | zero => exact absurd HA.out (by simp [spec_l03Alike.l0])
    | succ k1 =>
      have H := HA.out
      clear HA
      simp only [spec_l03Alike.l0] at H
      by_cases c5 : x9_1 < (wrap64 (a1 + a3))
      · rw [if_pos c5] at H
        have c5b0 : decide (x9_1 < (wrap64 (a1 + a3))) = true := decide_eq_true c5
        clear c5
        by_cases c6 : 0 ≤ x9_1
        · rw [if_pos c6] at H
          have c6b0 : decide (0 ≤ x9_1) = true := decide_eq_true c6
          clear c6
          by_cases c7 : x9_1 < (l0.length : Int)
          · rw [if_pos c7] at H
            have c7b0 : decide (x9_1 < (l0.length : Int)) = true := decide_eq_true c7
            clear c7
            obtain ⟨ji8, hji8⟩ : ∃ j_ : Int, (wrap64 (x9_1 + a2)) = j_ := ⟨_, rfl⟩
            replace H : (if 0 ≤ (ji8) then (if (ji8) < (l0.length : Int) then (if (rd l0 x9_1) = (rd l0 (ji8)) then (spec_l03Alike.l0 k1 l0 a1 a2 a3 (wrap64 (x9_1 + 1))) else (some false)) else (none)) else (none)) = some r := by first | (rw [hji8] at H; exact H) | (simp only [hji8] at H ⊢; exact H)
            have hji8w : (IntKind.i64.wrap (x9_1 + a2)) = ji8 := (i64_w _).trans hji8
            by_cases c9 : 0 ≤ (ji8)
            · rw [if_pos c9] at H
              have c9b0 : decide (0 ≤ (ji8)) = true := decide_eq_true c9
              clear c9
              by_cases c10 : (ji8) < (l0.length : Int)
              · rw [if_pos c10] at H
                have c10b0 : decide ((ji8) < (l0.length : Int)) = true := decide_eq_true c10
                clear c10
                by_cases c11 : (rd l0 x9_1) = (rd l0 (ji8))
                · rw [if_pos c11] at H
                  have c11b0 : ((rd l0 x9_1) == (rd l0 (ji8))) = true := beq_iff_eq.mpr c11
                  have c11b1 : ((rd l0 x9_1) != (rd l0 (ji8))) = false := bne_eq_false_iff_eq.mpr c11
                  clear c11
                  have H' := Aside0.mk H
                  clear H
                  have p255 : 0 ≤ (x9_1 : Int) := of_decide_eq_true (by first | (with_reducible assumption) | assumption)
                  have q255 : x9_1 < (l0.length : Int) := of_decide_eq_true (by first | (with_reducible assumption) | assumption)
                  obtain ⟨ad255, e255, hx255_0⟩ := Kd.at_int HR0.out x9_1 p255 q255
                  cases e255
                  replace p255 := eq_true p255
                  replace q255 := eq_true q255
                  have p256 : 0 ≤ ((ji8) : Int) := of_decide_eq_true (by first | (with_reducible assumption) | assumption)
                  have q256 : (ji8) < (l0.length : Int) := of_decide_eq_true (by first | (with_reducible assumption) | assumption)
                  obtain ⟨ad256, e256, hx256_0⟩ := Kd.at_int HR0.out (ji8) p256 q256
                  obtain rfl : ad255 = ad256 := (by injection e256)
                  replace p256 := eq_true p256
                  replace q256 := eq_true q256
                  go_wp2
                  repeat (go_quiet (fail); try go_wp2)
                  go_roundg k1
                  case measure => have := HK1.out; omega
                  case rel => exact ⟨(wrap64 (x9_1 + 1)), (by first | rfl | (simp; done) | (simp [*]; done)), H', ⟨by have := HK1.out; omega⟩, by repeat (first | exact Drawn0.refl _ | apply Drawn0.step)⟩
                · rw [if_neg c11] at H
                  have c11b0 : ((rd l0 x9_1) == (rd l0 (ji8))) = false := beq_eq_false_iff_ne.mpr c11
                  have c11b1 : ((rd l0 x9_1) != (rd l0 (ji8))) = true := bne_iff_ne.mpr c11
                  obtain rfl := Option.some.inj H
                  have p255 : 0 ≤ (x9_1 : Int) := of_decide_eq_true (by first | (with_reducible assumption) | assumption)
                  have q255 : x9_1 < (l0.length : Int) := of_decide_eq_true (by first | (with_reducible assumption) | assumption)
                  obtain ⟨ad255, e255, hx255_0⟩ := Kd.at_int HR0.out x9_1 p255 q255
                  cases e255
                  replace p255 := eq_true p255
                  replace q255 := eq_true q255
                  have p256 : 0 ≤ ((ji8) : Int) := of_decide_eq_true (by first | (with_reducible assumption) | assumption)
                  have q256 : (ji8) < (l0.length : Int) := of_decide_eq_true (by first | (with_reducible assumption) | assumption)
                  obtain ⟨ad256, e256, hx256_0⟩ := Kd.at_int HR0.out (ji8) p256 q256
                  obtain rfl : ad255 = ad256 := (by injection e256)
                  replace p256 := eq_true p256
                  replace q256 := eq_true q256
                  go_wp2
                  repeat (go_quiet (fail); try go_wp2)
                  go_ret
                  exact ⟨by first | rfl | (simp; done) | (simp only [← hji8] <;> (first | rfl | simp)) | (simp [*]; done), by repeat (first | exact Drawn0.refl _ | apply Drawn0.step)⟩
              · rw [if_neg c10] at H
                exact absurd H (by simp)
            · rw [if_neg c9] at H
              exact absurd H (by simp)
          · rw [if_neg c7] at H
            exact absurd H (by simp)
        · rw [if_neg c6] at H
          exact absurd H (by simp)
      · rw [if_neg c5] at H
        have c5b0 : decide (x9_1 < (wrap64 (a1 + a3))) = false := decide_eq_false c5
        clear c5
        obtain rfl := Option.some.inj H
        go_wp2
        repeat (go_quiet (fail); try go_wp2)
        go_ret
        exact ⟨by first | rfl | (simp; done) | (simp [*]; done), by repeat (first | exact Drawn0.refl _ | apply Drawn0.step)⟩

end Go.Proofs.Yteinllalhiflcaa.QFnHeapsTaken
