/- Written by the session's own program (wip/myprint.py), for the law FnExactRectangleByExclusion: each function as a plain Lean function, and its contract. -/
import Derived.Test.YtdgglnjegkmamaaDoorQFnExactRectangleByExclusionx0
import Derived.Test.YtdgglnjegkmamaaDoorQFnExactRectangleByExclusionx3
namespace Go.Proofs.YtdgglnjegkmamaaDoor.QFnExactRectangleByExclusion
open Go.RowKit Go.Proofs.YtdgglnjegkmamaaDoorW.PrintWords Go.Proofs.YtdgglnjegkmamaaDoorW.PrintLast Go.Proofs.YtdgglnjegkmamaaDoorW.PrintMore
attribute [local go_sem] max2_int min2_int max_two min_two max_three min_three max_four min_four   -- for this text's walks alone
set_option linter.unusedVariables false
set_option linter.unusedSimpArgs false

/-! ### bits_Len64: function 85 -/
def bits_Len64.j0 : Nat → Int → Int → Option (Int)
  | 0, _, _ => none
  | k + 1, x0, x2 => if x0 ≥ 65536 then (if (x0 / 65536) ≥ 256 then (if 0 ≤ (((x0 / 65536) / 256) % 256) then (if (((x0 / 65536) / 256) % 256) < 256 then (some (wrap64 ((wrap64 ((wrap64 (x2 + 16)) + 8)) + (wrap64 (bt (⟨#[0, 1, 2, 2, 3, 3, 3, 3, 4, 4, 4, 4, 4, 4, 4, 4, 5, 5, 5, 5, 5, 5, 5, 5, 5, 5, 5, 5, 5, 5, 5, 5, 6, 6, 6, 6, 6, 6, 6, 6, 6, 6, 6, 6, 6, 6, 6, 6, 6, 6, 6, 6, 6, 6, 6, 6, 6, 6, 6, 6, 6, 6, 6, 6, 7, 7, 7, 7, 7, 7, 7, 7, 7, 7, 7, 7, 7, 7, 7, 7, 7, 7, 7, 7, 7, 7, 7, 7, 7, 7, 7, 7, 7, 7, 7, 7, 7, 7, 7, 7, 7, 7, 7, 7, 7, 7, 7, 7, 7, 7, 7, 7, 7, 7, 7, 7, 7, 7, 7, 7, 7, 7, 7, 7, 7, 7, 7, 7, 8, 8, 8, 8, 8, 8, 8, 8, 8, 8, 8, 8, 8, 8, 8, 8, 8, 8, 8, 8, 8, 8, 8, 8, 8, 8, 8, 8, 8, 8, 8, 8, 8, 8, 8, 8, 8, 8, 8, 8, 8, 8, 8, 8, 8, 8, 8, 8, 8, 8, 8, 8, 8, 8, 8, 8, 8, 8, 8, 8, 8, 8, 8, 8, 8, 8, 8, 8, 8, 8, 8, 8, 8, 8, 8, 8, 8, 8, 8, 8, 8, 8, 8, 8, 8, 8, 8, 8, 8, 8, 8, 8, 8, 8, 8, 8, 8, 8, 8, 8, 8, 8, 8, 8, 8, 8, 8, 8, 8, 8, 8, 8, 8, 8, 8, 8, 8, 8, 8, 8, 8, 8, 8, 8, 8, 8, 8, 8]⟩ : ByteArray) (((x0 / 65536) / 256) % 256)))))) else (none)) else (none)) else (if 0 ≤ ((x0 / 65536) % 256) then (if ((x0 / 65536) % 256) < 256 then (some (wrap64 ((wrap64 (x2 + 16)) + (wrap64 (bt (⟨#[0, 1, 2, 2, 3, 3, 3, 3, 4, 4, 4, 4, 4, 4, 4, 4, 5, 5, 5, 5, 5, 5, 5, 5, 5, 5, 5, 5, 5, 5, 5, 5, 6, 6, 6, 6, 6, 6, 6, 6, 6, 6, 6, 6, 6, 6, 6, 6, 6, 6, 6, 6, 6, 6, 6, 6, 6, 6, 6, 6, 6, 6, 6, 6, 7, 7, 7, 7, 7, 7, 7, 7, 7, 7, 7, 7, 7, 7, 7, 7, 7, 7, 7, 7, 7, 7, 7, 7, 7, 7, 7, 7, 7, 7, 7, 7, 7, 7, 7, 7, 7, 7, 7, 7, 7, 7, 7, 7, 7, 7, 7, 7, 7, 7, 7, 7, 7, 7, 7, 7, 7, 7, 7, 7, 7, 7, 7, 7, 8, 8, 8, 8, 8, 8, 8, 8, 8, 8, 8, 8, 8, 8, 8, 8, 8, 8, 8, 8, 8, 8, 8, 8, 8, 8, 8, 8, 8, 8, 8, 8, 8, 8, 8, 8, 8, 8, 8, 8, 8, 8, 8, 8, 8, 8, 8, 8, 8, 8, 8, 8, 8, 8, 8, 8, 8, 8, 8, 8, 8, 8, 8, 8, 8, 8, 8, 8, 8, 8, 8, 8, 8, 8, 8, 8, 8, 8, 8, 8, 8, 8, 8, 8, 8, 8, 8, 8, 8, 8, 8, 8, 8, 8, 8, 8, 8, 8, 8, 8, 8, 8, 8, 8, 8, 8, 8, 8, 8, 8, 8, 8, 8, 8, 8, 8, 8, 8, 8, 8, 8, 8, 8, 8, 8, 8, 8, 8]⟩ : ByteArray) ((x0 / 65536) % 256)))))) else (none)) else (none))) else (if x0 ≥ 256 then (if 0 ≤ ((x0 / 256) % 256) then (if ((x0 / 256) % 256) < 256 then (some (wrap64 ((wrap64 (x2 + 8)) + (wrap64 (bt (⟨#[0, 1, 2, 2, 3, 3, 3, 3, 4, 4, 4, 4, 4, 4, 4, 4, 5, 5, 5, 5, 5, 5, 5, 5, 5, 5, 5, 5, 5, 5, 5, 5, 6, 6, 6, 6, 6, 6, 6, 6, 6, 6, 6, 6, 6, 6, 6, 6, 6, 6, 6, 6, 6, 6, 6, 6, 6, 6, 6, 6, 6, 6, 6, 6, 7, 7, 7, 7, 7, 7, 7, 7, 7, 7, 7, 7, 7, 7, 7, 7, 7, 7, 7, 7, 7, 7, 7, 7, 7, 7, 7, 7, 7, 7, 7, 7, 7, 7, 7, 7, 7, 7, 7, 7, 7, 7, 7, 7, 7, 7, 7, 7, 7, 7, 7, 7, 7, 7, 7, 7, 7, 7, 7, 7, 7, 7, 7, 7, 8, 8, 8, 8, 8, 8, 8, 8, 8, 8, 8, 8, 8, 8, 8, 8, 8, 8, 8, 8, 8, 8, 8, 8, 8, 8, 8, 8, 8, 8, 8, 8, 8, 8, 8, 8, 8, 8, 8, 8, 8, 8, 8, 8, 8, 8, 8, 8, 8, 8, 8, 8, 8, 8, 8, 8, 8, 8, 8, 8, 8, 8, 8, 8, 8, 8, 8, 8, 8, 8, 8, 8, 8, 8, 8, 8, 8, 8, 8, 8, 8, 8, 8, 8, 8, 8, 8, 8, 8, 8, 8, 8, 8, 8, 8, 8, 8, 8, 8, 8, 8, 8, 8, 8, 8, 8, 8, 8, 8, 8, 8, 8, 8, 8, 8, 8, 8, 8, 8, 8, 8, 8, 8, 8, 8, 8, 8, 8]⟩ : ByteArray) ((x0 / 256) % 256)))))) else (none)) else (none)) else (if 0 ≤ ((x0) % 256) then (if ((x0) % 256) < 256 then (some (wrap64 (x2 + (wrap64 (bt (⟨#[0, 1, 2, 2, 3, 3, 3, 3, 4, 4, 4, 4, 4, 4, 4, 4, 5, 5, 5, 5, 5, 5, 5, 5, 5, 5, 5, 5, 5, 5, 5, 5, 6, 6, 6, 6, 6, 6, 6, 6, 6, 6, 6, 6, 6, 6, 6, 6, 6, 6, 6, 6, 6, 6, 6, 6, 6, 6, 6, 6, 6, 6, 6, 6, 7, 7, 7, 7, 7, 7, 7, 7, 7, 7, 7, 7, 7, 7, 7, 7, 7, 7, 7, 7, 7, 7, 7, 7, 7, 7, 7, 7, 7, 7, 7, 7, 7, 7, 7, 7, 7, 7, 7, 7, 7, 7, 7, 7, 7, 7, 7, 7, 7, 7, 7, 7, 7, 7, 7, 7, 7, 7, 7, 7, 7, 7, 7, 7, 8, 8, 8, 8, 8, 8, 8, 8, 8, 8, 8, 8, 8, 8, 8, 8, 8, 8, 8, 8, 8, 8, 8, 8, 8, 8, 8, 8, 8, 8, 8, 8, 8, 8, 8, 8, 8, 8, 8, 8, 8, 8, 8, 8, 8, 8, 8, 8, 8, 8, 8, 8, 8, 8, 8, 8, 8, 8, 8, 8, 8, 8, 8, 8, 8, 8, 8, 8, 8, 8, 8, 8, 8, 8, 8, 8, 8, 8, 8, 8, 8, 8, 8, 8, 8, 8, 8, 8, 8, 8, 8, 8, 8, 8, 8, 8, 8, 8, 8, 8, 8, 8, 8, 8, 8, 8, 8, 8, 8, 8, 8, 8, 8, 8, 8, 8, 8, 8, 8, 8, 8, 8, 8, 8, 8, 8, 8, 8]⟩ : ByteArray) ((x0) % 256)))))) else (none)) else (none)))
def bits_Len64.f (k : Nat) (a0 : Int) : Option (Int) := if a0 ≥ 4294967296 then (bits_Len64.j0 k (a0 / 4294967296) 32) else (bits_Len64.j0 k a0 0)
theorem bits_Len64.mono_l : ∀ k, (∀ y0 y1, LeO (bits_Len64.j0 k y0 y1) (bits_Len64.j0 (k + 1) y0 y1))
  | 0 => fun _ _ r h => by simp [bits_Len64.j0] at h
  | k + 1 => by
    have ih0 := bits_Len64.mono_l k
    · intro y0 y1
      unfold bits_Len64.j0
      repeat' first
      | (with_reducible exact ih0 _ _)
      | (with_reducible exact LeO.refl _)
      | (with_reducible exact LeO.none _)
      | (with_reducible refine LeO.ite ?_ ?_)
      | (with_reducible refine LeO.bind ?_ (fun _ => ?_))
      | exact ih0 _ _
      | exact LeO.none _
      | refine LeO.ite ?_ ?_
      | refine LeO.bind ?_ (fun _ => ?_)
theorem bits_Len64.mono : ∀ a0 k, LeO (bits_Len64.f k a0) (bits_Len64.f (k + 1) a0) := by
  intro a0 k
  have ih0 := bits_Len64.mono_l k
  unfold bits_Len64.f
  repeat' first
      | (with_reducible exact ih0 _ _)
      | (with_reducible exact LeO.refl _)
      | (with_reducible exact LeO.none _)
      | (with_reducible refine LeO.ite ?_ ?_)
      | (with_reducible refine LeO.bind ?_ (fun _ => ?_))
      | exact ih0 _ _
      | exact LeO.none _
      | refine LeO.ite ?_ ?_
      | refine LeO.bind ?_ (fun _ => ?_)
set_option maxHeartbeats 8000000 in
set_option maxRecDepth 100000 in
theorem bits_Len64.calls (k : Nat) (a0 : Int) (r : Int) (w : World) (h : bits_Len64.f k a0 = some r) :
    Calls Tryd.prog 85 #[.int .u64 a0] w fun e w' => e = .returned (.int .i64 r) ∧ Drawn0 w w' := by
  have H : (if a0 ≥ 4294967296 then (bits_Len64.j0 k (a0 / 4294967296) 32) else (bits_Len64.j0 k a0 0)) = some r := h
  clear h
  have HC2 := Aside0.mk H
  clear H
  go_enter Tryd.func85, Tryd.ntmps85
  go_upto_if 4 with (fail)
  go_cut [0, 2] (fun v0 v2 wc => ∃ (kq : Nat) (x0_1 : Int) (x2_1 : Int), v0 = .int .u64 x0_1 ∧ v2 = .int .i64 x2_1 ∧ Aside0 (bits_Len64.j0 kq x0_1 x2_1 = some r) ∧ Aside0 (kq ≤ k) ∧ Drawn0 w wc)
  case first =>
    have H := HC2.out
    clear HC2
    by_cases c3 : a0 ≥ 4294967296
    · rw [if_pos c3] at H
      have c3b0 : decide (4294967296 ≤ a0) = true := decide_eq_true c3
      clear c3
      (first | rw [c3b0] | (simp only [i64_w, i32_w]; rw [c3b0]) | skip)
      have H' := Aside0.mk H
      clear H
      go_wp2
      go_meet
      case rel => exact ⟨_, (a0 / 4294967296), (32), (by first | rfl | (simp; done) | (simp [*]; done)), (by first | rfl | (simp; done) | (simp [*]; done)), H', ⟨by first | omega | exact Nat.le_refl _⟩, by repeat (first | exact Drawn0.refl _ | apply Drawn0.step)⟩
    · rw [if_neg c3] at H
      have c3b0 : decide (4294967296 ≤ a0) = false := decide_eq_false c3
      clear c3
      (first | rw [c3b0] | (simp only [i64_w, i32_w]; rw [c3b0]) | skip)
      have H' := Aside0.mk H
      clear H
      go_wp2
      go_meet
      case rel => exact ⟨_, (a0), (0), (by first | rfl | (simp; done) | (simp [*]; done)), (by first | rfl | (simp; done) | (simp [*]; done)), H', ⟨by first | omega | exact Nat.le_refl _⟩, by repeat (first | exact Drawn0.refl _ | apply Drawn0.step)⟩
  case rest =>
    clear HC2
    try clear p2
    try clear c3
    try clear c3b0
    obtain ⟨kq, x0_1, x2_1, rfl, rfl, HA, HJ1, ⟨mc1, rfl⟩⟩ := hcut
    cases kq with
    | zero => exact absurd HA.out (by simp [bits_Len64.j0])
    | succ kj1 =>
      have H := HA.out
      clear HA
      simp only [bits_Len64.j0] at H
      by_cases c4 : x0_1 ≥ 65536
      · rw [if_pos c4] at H
        have c4b0 : decide (65536 ≤ x0_1) = true := decide_eq_true c4
        clear c4
        by_cases c5 : (x0_1 / 65536) ≥ 256
        · rw [if_pos c5] at H
          have c5b0 : decide (256 ≤ (x0_1 / 65536)) = true := decide_eq_true c5
          clear c5
          obtain ⟨ji6, hji6⟩ : ∃ j_ : Int, (((x0_1 / 65536) / 256) % 256) = j_ := ⟨_, rfl⟩
          replace H : (if 0 ≤ (ji6) then (if (ji6) < 256 then (some (wrap64 ((wrap64 ((wrap64 (x2_1 + 16)) + 8)) + (wrap64 (bt (⟨#[0, 1, 2, 2, 3, 3, 3, 3, 4, 4, 4, 4, 4, 4, 4, 4, 5, 5, 5, 5, 5, 5, 5, 5, 5, 5, 5, 5, 5, 5, 5, 5, 6, 6, 6, 6, 6, 6, 6, 6, 6, 6, 6, 6, 6, 6, 6, 6, 6, 6, 6, 6, 6, 6, 6, 6, 6, 6, 6, 6, 6, 6, 6, 6, 7, 7, 7, 7, 7, 7, 7, 7, 7, 7, 7, 7, 7, 7, 7, 7, 7, 7, 7, 7, 7, 7, 7, 7, 7, 7, 7, 7, 7, 7, 7, 7, 7, 7, 7, 7, 7, 7, 7, 7, 7, 7, 7, 7, 7, 7, 7, 7, 7, 7, 7, 7, 7, 7, 7, 7, 7, 7, 7, 7, 7, 7, 7, 7, 8, 8, 8, 8, 8, 8, 8, 8, 8, 8, 8, 8, 8, 8, 8, 8, 8, 8, 8, 8, 8, 8, 8, 8, 8, 8, 8, 8, 8, 8, 8, 8, 8, 8, 8, 8, 8, 8, 8, 8, 8, 8, 8, 8, 8, 8, 8, 8, 8, 8, 8, 8, 8, 8, 8, 8, 8, 8, 8, 8, 8, 8, 8, 8, 8, 8, 8, 8, 8, 8, 8, 8, 8, 8, 8, 8, 8, 8, 8, 8, 8, 8, 8, 8, 8, 8, 8, 8, 8, 8, 8, 8, 8, 8, 8, 8, 8, 8, 8, 8, 8, 8, 8, 8, 8, 8, 8, 8, 8, 8, 8, 8, 8, 8, 8, 8, 8, 8, 8, 8, 8, 8, 8, 8, 8, 8, 8, 8]⟩ : ByteArray) (ji6)))))) else (none)) else (none)) = some r := by first | (rw [hji6] at H; exact H) | (simp only [hji6] at H ⊢; exact H)
          by_cases c7 : 0 ≤ (ji6)
          · rw [if_pos c7] at H
            have c7b0 : decide (0 ≤ (ji6)) = true := decide_eq_true c7
            clear c7
            by_cases c8 : (ji6) < 256
            · rw [if_pos c8] at H
              have c8b0 : decide ((ji6) < 256) = true := decide_eq_true c8
              clear c8
              obtain rfl := Option.some.inj H
              have p9 : 0 ≤ ((ji6) : Int) := of_decide_eq_true (by first | (with_reducible assumption) | assumption)
              have q9 : (ji6) < (256 : Int) := of_decide_eq_true (by first | (with_reducible assumption) | assumption)
              have hx9 := bt_at (⟨#[0, 1, 2, 2, 3, 3, 3, 3, 4, 4, 4, 4, 4, 4, 4, 4, 5, 5, 5, 5, 5, 5, 5, 5, 5, 5, 5, 5, 5, 5, 5, 5, 6, 6, 6, 6, 6, 6, 6, 6, 6, 6, 6, 6, 6, 6, 6, 6, 6, 6, 6, 6, 6, 6, 6, 6, 6, 6, 6, 6, 6, 6, 6, 6, 7, 7, 7, 7, 7, 7, 7, 7, 7, 7, 7, 7, 7, 7, 7, 7, 7, 7, 7, 7, 7, 7, 7, 7, 7, 7, 7, 7, 7, 7, 7, 7, 7, 7, 7, 7, 7, 7, 7, 7, 7, 7, 7, 7, 7, 7, 7, 7, 7, 7, 7, 7, 7, 7, 7, 7, 7, 7, 7, 7, 7, 7, 7, 7, 8, 8, 8, 8, 8, 8, 8, 8, 8, 8, 8, 8, 8, 8, 8, 8, 8, 8, 8, 8, 8, 8, 8, 8, 8, 8, 8, 8, 8, 8, 8, 8, 8, 8, 8, 8, 8, 8, 8, 8, 8, 8, 8, 8, 8, 8, 8, 8, 8, 8, 8, 8, 8, 8, 8, 8, 8, 8, 8, 8, 8, 8, 8, 8, 8, 8, 8, 8, 8, 8, 8, 8, 8, 8, 8, 8, 8, 8, 8, 8, 8, 8, 8, 8, 8, 8, 8, 8, 8, 8, 8, 8, 8, 8, 8, 8, 8, 8, 8, 8, 8, 8, 8, 8, 8, 8, 8, 8, 8, 8, 8, 8, 8, 8, 8, 8, 8, 8, 8, 8, 8, 8, 8, 8, 8, 8, 8, 8]⟩ : ByteArray) (ji6)
              replace p9 := eq_true p9
              replace q9 := eq_true q9
              go_wp2
              go_ret
              exact ⟨by first | rfl | (simp; done) | (simp only [← hji6] <;> (first | rfl | simp)) | (simp [*]; done), by repeat (first | exact Drawn0.refl _ | apply Drawn0.step)⟩
            · rw [if_neg c8] at H
              exact absurd H (by simp)
          · rw [if_neg c7] at H
            exact absurd H (by simp)
        · rw [if_neg c5] at H
          have c5b0 : decide (256 ≤ (x0_1 / 65536)) = false := decide_eq_false c5
          clear c5
          obtain ⟨ji10, hji10⟩ : ∃ j_ : Int, ((x0_1 / 65536) % 256) = j_ := ⟨_, rfl⟩
          replace H : (if 0 ≤ (ji10) then (if (ji10) < 256 then (some (wrap64 ((wrap64 (x2_1 + 16)) + (wrap64 (bt (⟨#[0, 1, 2, 2, 3, 3, 3, 3, 4, 4, 4, 4, 4, 4, 4, 4, 5, 5, 5, 5, 5, 5, 5, 5, 5, 5, 5, 5, 5, 5, 5, 5, 6, 6, 6, 6, 6, 6, 6, 6, 6, 6, 6, 6, 6, 6, 6, 6, 6, 6, 6, 6, 6, 6, 6, 6, 6, 6, 6, 6, 6, 6, 6, 6, 7, 7, 7, 7, 7, 7, 7, 7, 7, 7, 7, 7, 7, 7, 7, 7, 7, 7, 7, 7, 7, 7, 7, 7, 7, 7, 7, 7, 7, 7, 7, 7, 7, 7, 7, 7, 7, 7, 7, 7, 7, 7, 7, 7, 7, 7, 7, 7, 7, 7, 7, 7, 7, 7, 7, 7, 7, 7, 7, 7, 7, 7, 7, 7, 8, 8, 8, 8, 8, 8, 8, 8, 8, 8, 8, 8, 8, 8, 8, 8, 8, 8, 8, 8, 8, 8, 8, 8, 8, 8, 8, 8, 8, 8, 8, 8, 8, 8, 8, 8, 8, 8, 8, 8, 8, 8, 8, 8, 8, 8, 8, 8, 8, 8, 8, 8, 8, 8, 8, 8, 8, 8, 8, 8, 8, 8, 8, 8, 8, 8, 8, 8, 8, 8, 8, 8, 8, 8, 8, 8, 8, 8, 8, 8, 8, 8, 8, 8, 8, 8, 8, 8, 8, 8, 8, 8, 8, 8, 8, 8, 8, 8, 8, 8, 8, 8, 8, 8, 8, 8, 8, 8, 8, 8, 8, 8, 8, 8, 8, 8, 8, 8, 8, 8, 8, 8, 8, 8, 8, 8, 8, 8]⟩ : ByteArray) (ji10)))))) else (none)) else (none)) = some r := by first | (rw [hji10] at H; exact H) | (simp only [hji10] at H ⊢; exact H)
          by_cases c11 : 0 ≤ (ji10)
          · rw [if_pos c11] at H
            have c11b0 : decide (0 ≤ (ji10)) = true := decide_eq_true c11
            clear c11
            by_cases c12 : (ji10) < 256
            · rw [if_pos c12] at H
              have c12b0 : decide ((ji10) < 256) = true := decide_eq_true c12
              clear c12
              obtain rfl := Option.some.inj H
              have p13 : 0 ≤ ((ji10) : Int) := of_decide_eq_true (by first | (with_reducible assumption) | assumption)
              have q13 : (ji10) < (256 : Int) := of_decide_eq_true (by first | (with_reducible assumption) | assumption)
              have hx13 := bt_at (⟨#[0, 1, 2, 2, 3, 3, 3, 3, 4, 4, 4, 4, 4, 4, 4, 4, 5, 5, 5, 5, 5, 5, 5, 5, 5, 5, 5, 5, 5, 5, 5, 5, 6, 6, 6, 6, 6, 6, 6, 6, 6, 6, 6, 6, 6, 6, 6, 6, 6, 6, 6, 6, 6, 6, 6, 6, 6, 6, 6, 6, 6, 6, 6, 6, 7, 7, 7, 7, 7, 7, 7, 7, 7, 7, 7, 7, 7, 7, 7, 7, 7, 7, 7, 7, 7, 7, 7, 7, 7, 7, 7, 7, 7, 7, 7, 7, 7, 7, 7, 7, 7, 7, 7, 7, 7, 7, 7, 7, 7, 7, 7, 7, 7, 7, 7, 7, 7, 7, 7, 7, 7, 7, 7, 7, 7, 7, 7, 7, 8, 8, 8, 8, 8, 8, 8, 8, 8, 8, 8, 8, 8, 8, 8, 8, 8, 8, 8, 8, 8, 8, 8, 8, 8, 8, 8, 8, 8, 8, 8, 8, 8, 8, 8, 8, 8, 8, 8, 8, 8, 8, 8, 8, 8, 8, 8, 8, 8, 8, 8, 8, 8, 8, 8, 8, 8, 8, 8, 8, 8, 8, 8, 8, 8, 8, 8, 8, 8, 8, 8, 8, 8, 8, 8, 8, 8, 8, 8, 8, 8, 8, 8, 8, 8, 8, 8, 8, 8, 8, 8, 8, 8, 8, 8, 8, 8, 8, 8, 8, 8, 8, 8, 8, 8, 8, 8, 8, 8, 8, 8, 8, 8, 8, 8, 8, 8, 8, 8, 8, 8, 8, 8, 8, 8, 8, 8, 8]⟩ : ByteArray) (ji10)
              replace p13 := eq_true p13
              replace q13 := eq_true q13
              go_wp2
              go_ret
              exact ⟨by first | rfl | (simp; done) | (simp only [← hji10] <;> (first | rfl | simp)) | (simp [*]; done), by repeat (first | exact Drawn0.refl _ | apply Drawn0.step)⟩
            · rw [if_neg c12] at H
              exact absurd H (by simp)
          · rw [if_neg c11] at H
            exact absurd H (by simp)
      · rw [if_neg c4] at H
        have c4b0 : decide (65536 ≤ x0_1) = false := decide_eq_false c4
        clear c4
        by_cases c14 : x0_1 ≥ 256
        · rw [if_pos c14] at H
          have c14b0 : decide (256 ≤ x0_1) = true := decide_eq_true c14
          clear c14
          obtain ⟨ji15, hji15⟩ : ∃ j_ : Int, ((x0_1 / 256) % 256) = j_ := ⟨_, rfl⟩
          replace H : (if 0 ≤ (ji15) then (if (ji15) < 256 then (some (wrap64 ((wrap64 (x2_1 + 8)) + (wrap64 (bt (⟨#[0, 1, 2, 2, 3, 3, 3, 3, 4, 4, 4, 4, 4, 4, 4, 4, 5, 5, 5, 5, 5, 5, 5, 5, 5, 5, 5, 5, 5, 5, 5, 5, 6, 6, 6, 6, 6, 6, 6, 6, 6, 6, 6, 6, 6, 6, 6, 6, 6, 6, 6, 6, 6, 6, 6, 6, 6, 6, 6, 6, 6, 6, 6, 6, 7, 7, 7, 7, 7, 7, 7, 7, 7, 7, 7, 7, 7, 7, 7, 7, 7, 7, 7, 7, 7, 7, 7, 7, 7, 7, 7, 7, 7, 7, 7, 7, 7, 7, 7, 7, 7, 7, 7, 7, 7, 7, 7, 7, 7, 7, 7, 7, 7, 7, 7, 7, 7, 7, 7, 7, 7, 7, 7, 7, 7, 7, 7, 7, 8, 8, 8, 8, 8, 8, 8, 8, 8, 8, 8, 8, 8, 8, 8, 8, 8, 8, 8, 8, 8, 8, 8, 8, 8, 8, 8, 8, 8, 8, 8, 8, 8, 8, 8, 8, 8, 8, 8, 8, 8, 8, 8, 8, 8, 8, 8, 8, 8, 8, 8, 8, 8, 8, 8, 8, 8, 8, 8, 8, 8, 8, 8, 8, 8, 8, 8, 8, 8, 8, 8, 8, 8, 8, 8, 8, 8, 8, 8, 8, 8, 8, 8, 8, 8, 8, 8, 8, 8, 8, 8, 8, 8, 8, 8, 8, 8, 8, 8, 8, 8, 8, 8, 8, 8, 8, 8, 8, 8, 8, 8, 8, 8, 8, 8, 8, 8, 8, 8, 8, 8, 8, 8, 8, 8, 8, 8, 8]⟩ : ByteArray) (ji15)))))) else (none)) else (none)) = some r := by first | (rw [hji15] at H; exact H) | (simp only [hji15] at H ⊢; exact H)
          by_cases c16 : 0 ≤ (ji15)
          · rw [if_pos c16] at H
            have c16b0 : decide (0 ≤ (ji15)) = true := decide_eq_true c16
            clear c16
            by_cases c17 : (ji15) < 256
            · rw [if_pos c17] at H
              have c17b0 : decide ((ji15) < 256) = true := decide_eq_true c17
              clear c17
              obtain rfl := Option.some.inj H
              have p18 : 0 ≤ ((ji15) : Int) := of_decide_eq_true (by first | (with_reducible assumption) | assumption)
              have q18 : (ji15) < (256 : Int) := of_decide_eq_true (by first | (with_reducible assumption) | assumption)
              have hx18 := bt_at (⟨#[0, 1, 2, 2, 3, 3, 3, 3, 4, 4, 4, 4, 4, 4, 4, 4, 5, 5, 5, 5, 5, 5, 5, 5, 5, 5, 5, 5, 5, 5, 5, 5, 6, 6, 6, 6, 6, 6, 6, 6, 6, 6, 6, 6, 6, 6, 6, 6, 6, 6, 6, 6, 6, 6, 6, 6, 6, 6, 6, 6, 6, 6, 6, 6, 7, 7, 7, 7, 7, 7, 7, 7, 7, 7, 7, 7, 7, 7, 7, 7, 7, 7, 7, 7, 7, 7, 7, 7, 7, 7, 7, 7, 7, 7, 7, 7, 7, 7, 7, 7, 7, 7, 7, 7, 7, 7, 7, 7, 7, 7, 7, 7, 7, 7, 7, 7, 7, 7, 7, 7, 7, 7, 7, 7, 7, 7, 7, 7, 8, 8, 8, 8, 8, 8, 8, 8, 8, 8, 8, 8, 8, 8, 8, 8, 8, 8, 8, 8, 8, 8, 8, 8, 8, 8, 8, 8, 8, 8, 8, 8, 8, 8, 8, 8, 8, 8, 8, 8, 8, 8, 8, 8, 8, 8, 8, 8, 8, 8, 8, 8, 8, 8, 8, 8, 8, 8, 8, 8, 8, 8, 8, 8, 8, 8, 8, 8, 8, 8, 8, 8, 8, 8, 8, 8, 8, 8, 8, 8, 8, 8, 8, 8, 8, 8, 8, 8, 8, 8, 8, 8, 8, 8, 8, 8, 8, 8, 8, 8, 8, 8, 8, 8, 8, 8, 8, 8, 8, 8, 8, 8, 8, 8, 8, 8, 8, 8, 8, 8, 8, 8, 8, 8, 8, 8, 8, 8]⟩ : ByteArray) (ji15)
              replace p18 := eq_true p18
              replace q18 := eq_true q18
              go_wp2
              go_ret
              exact ⟨by first | rfl | (simp; done) | (simp only [← hji15] <;> (first | rfl | simp)) | (simp [*]; done), by repeat (first | exact Drawn0.refl _ | apply Drawn0.step)⟩
            · rw [if_neg c17] at H
              exact absurd H (by simp)
          · rw [if_neg c16] at H
            exact absurd H (by simp)
        · rw [if_neg c14] at H
          have c14b0 : decide (256 ≤ x0_1) = false := decide_eq_false c14
          clear c14
          obtain ⟨ji19, hji19⟩ : ∃ j_ : Int, ((x0_1) % 256) = j_ := ⟨_, rfl⟩
          replace H : (if 0 ≤ (ji19) then (if (ji19) < 256 then (some (wrap64 (x2_1 + (wrap64 (bt (⟨#[0, 1, 2, 2, 3, 3, 3, 3, 4, 4, 4, 4, 4, 4, 4, 4, 5, 5, 5, 5, 5, 5, 5, 5, 5, 5, 5, 5, 5, 5, 5, 5, 6, 6, 6, 6, 6, 6, 6, 6, 6, 6, 6, 6, 6, 6, 6, 6, 6, 6, 6, 6, 6, 6, 6, 6, 6, 6, 6, 6, 6, 6, 6, 6, 7, 7, 7, 7, 7, 7, 7, 7, 7, 7, 7, 7, 7, 7, 7, 7, 7, 7, 7, 7, 7, 7, 7, 7, 7, 7, 7, 7, 7, 7, 7, 7, 7, 7, 7, 7, 7, 7, 7, 7, 7, 7, 7, 7, 7, 7, 7, 7, 7, 7, 7, 7, 7, 7, 7, 7, 7, 7, 7, 7, 7, 7, 7, 7, 8, 8, 8, 8, 8, 8, 8, 8, 8, 8, 8, 8, 8, 8, 8, 8, 8, 8, 8, 8, 8, 8, 8, 8, 8, 8, 8, 8, 8, 8, 8, 8, 8, 8, 8, 8, 8, 8, 8, 8, 8, 8, 8, 8, 8, 8, 8, 8, 8, 8, 8, 8, 8, 8, 8, 8, 8, 8, 8, 8, 8, 8, 8, 8, 8, 8, 8, 8, 8, 8, 8, 8, 8, 8, 8, 8, 8, 8, 8, 8, 8, 8, 8, 8, 8, 8, 8, 8, 8, 8, 8, 8, 8, 8, 8, 8, 8, 8, 8, 8, 8, 8, 8, 8, 8, 8, 8, 8, 8, 8, 8, 8, 8, 8, 8, 8, 8, 8, 8, 8, 8, 8, 8, 8, 8, 8, 8, 8]⟩ : ByteArray) (ji19)))))) else (none)) else (none)) = some r := by first | (rw [hji19] at H; exact H) | (simp only [hji19] at H ⊢; exact H)
          by_cases c20 : 0 ≤ (ji19)
          · rw [if_pos c20] at H
            have c20b0 : decide (0 ≤ (ji19)) = true := decide_eq_true c20
            clear c20
            by_cases c21 : (ji19) < 256
            · rw [if_pos c21] at H
              have c21b0 : decide ((ji19) < 256) = true := decide_eq_true c21
              clear c21
              obtain rfl := Option.some.inj H
              have p22 : 0 ≤ ((ji19) : Int) := of_decide_eq_true (by first | (with_reducible assumption) | assumption)
              have q22 : (ji19) < (256 : Int) := of_decide_eq_true (by first | (with_reducible assumption) | assumption)
              have hx22 := bt_at (⟨#[0, 1, 2, 2, 3, 3, 3, 3, 4, 4, 4, 4, 4, 4, 4, 4, 5, 5, 5, 5, 5, 5, 5, 5, 5, 5, 5, 5, 5, 5, 5, 5, 6, 6, 6, 6, 6, 6, 6, 6, 6, 6, 6, 6, 6, 6, 6, 6, 6, 6, 6, 6, 6, 6, 6, 6, 6, 6, 6, 6, 6, 6, 6, 6, 7, 7, 7, 7, 7, 7, 7, 7, 7, 7, 7, 7, 7, 7, 7, 7, 7, 7, 7, 7, 7, 7, 7, 7, 7, 7, 7, 7, 7, 7, 7, 7, 7, 7, 7, 7, 7, 7, 7, 7, 7, 7, 7, 7, 7, 7, 7, 7, 7, 7, 7, 7, 7, 7, 7, 7, 7, 7, 7, 7, 7, 7, 7, 7, 8, 8, 8, 8, 8, 8, 8, 8, 8, 8, 8, 8, 8, 8, 8, 8, 8, 8, 8, 8, 8, 8, 8, 8, 8, 8, 8, 8, 8, 8, 8, 8, 8, 8, 8, 8, 8, 8, 8, 8, 8, 8, 8, 8, 8, 8, 8, 8, 8, 8, 8, 8, 8, 8, 8, 8, 8, 8, 8, 8, 8, 8, 8, 8, 8, 8, 8, 8, 8, 8, 8, 8, 8, 8, 8, 8, 8, 8, 8, 8, 8, 8, 8, 8, 8, 8, 8, 8, 8, 8, 8, 8, 8, 8, 8, 8, 8, 8, 8, 8, 8, 8, 8, 8, 8, 8, 8, 8, 8, 8, 8, 8, 8, 8, 8, 8, 8, 8, 8, 8, 8, 8, 8, 8, 8, 8, 8, 8]⟩ : ByteArray) (ji19)
              replace p22 := eq_true p22
              replace q22 := eq_true q22
              go_wp2
              go_ret
              exact ⟨by first | rfl | (simp; done) | (simp only [← hji19] <;> (first | rfl | simp)) | (simp [*]; done), by repeat (first | exact Drawn0.refl _ | apply Drawn0.step)⟩
            · rw [if_neg c21] at H
              exact absurd H (by simp)
          · rw [if_neg c20] at H
            exact absurd H (by simp)

/-! ### bits_Len: function 65 -/
def bits_Len.f (k : Nat) (a0 : Int) : Option (Int) := (bits_Len64.f k a0).bind fun t153 => (some t153)
theorem bits_Len.mono : ∀ a0 k, LeO (bits_Len.f k a0) (bits_Len.f (k + 1) a0) := by
  intro a0 k
  unfold bits_Len.f
  repeat' first
      | (with_reducible exact bits_Len64.mono _ _)
      | (with_reducible exact LeO.refl _)
      | (with_reducible exact LeO.none _)
      | (with_reducible refine LeO.ite ?_ ?_)
      | (with_reducible refine LeO.bind ?_ (fun _ => ?_))
      | exact bits_Len64.mono _ _
      | exact LeO.none _
      | refine LeO.ite ?_ ?_
      | refine LeO.bind ?_ (fun _ => ?_)
set_option maxHeartbeats 8000000 in
set_option maxRecDepth 100000 in
theorem bits_Len.calls (k : Nat) (a0 : Int) (r : Int) (w : World) (h : bits_Len.f k a0 = some r) :
    Calls Tryd.prog 65 #[.int .u64 a0] w fun e w' => e = .returned (.int .i64 r) ∧ Drawn0 w w' := by
  have H : ((bits_Len64.f k a0).bind fun t153 => (some t153)) = some r := h
  clear h
  replace H := Option.bind_eq_some_iff.mp H
  obtain ⟨t153, A20, H⟩ := H
  replace H : (some t153) = some r := H
  have A2 := Aside0.mk A20
  clear A20
  obtain rfl := Option.some.inj H
  go_enter Tryd.func65, Tryd.ntmps65
  go_wp2_with (first | ((with_reducible refine gate_callee (f := 85) rfl ?_); refine goesL_ (some 7) rfl rfl Tryd.func85 (by kernel_rfl) rfl #[.int .u64 a0] rfl (by (try simp only [List.map_toArray, List.map_cons, List.map_nil]); first | done | rfl | (simp only [List.length_drop, List.length_take]; rfl)) ?_; (with_reducible refine (bits_Len64.calls k a0 t153 _ A2.out).mono ?_); rintro e w' ⟨rfl, ⟨nd, rfl⟩⟩; refine ⟨_, rfl, ?_⟩))
  go_ret
  exact ⟨by first | rfl | (simp; done) | (simp [*]; done), by repeat (first | exact Drawn0.refl _ | apply Drawn0.step)⟩

/-! ### slices_nextPowerOfTwo: function 96 -/
def slices_nextPowerOfTwo.f (k : Nat) (a0 : Int) : Option (Int) := (bits_Len.f k (IntKind.u64.wrap (a0))).bind fun t154 => (if 0 ≤ t154 then (some (shl .u64 1 t154)) else (none))
theorem slices_nextPowerOfTwo.mono : ∀ a0 k, LeO (slices_nextPowerOfTwo.f k a0) (slices_nextPowerOfTwo.f (k + 1) a0) := by
  intro a0 k
  unfold slices_nextPowerOfTwo.f
  repeat' first
      | (with_reducible exact bits_Len.mono _ _)
      | (with_reducible exact LeO.refl _)
      | (with_reducible exact LeO.none _)
      | (with_reducible refine LeO.ite ?_ ?_)
      | (with_reducible refine LeO.bind ?_ (fun _ => ?_))
      | exact bits_Len.mono _ _
      | exact LeO.none _
      | refine LeO.ite ?_ ?_
      | refine LeO.bind ?_ (fun _ => ?_)
set_option maxHeartbeats 8000000 in
set_option maxRecDepth 100000 in
theorem slices_nextPowerOfTwo.calls (k : Nat) (a0 : Int) (r : Int) (w : World) (h : slices_nextPowerOfTwo.f k a0 = some r) :
    Calls Tryd.prog 96 #[.int .i64 a0] w fun e w' => e = .returned (.int .u64 r) ∧ Drawn0 w w' := by
  have H : ((bits_Len.f k (IntKind.u64.wrap (a0))).bind fun t154 => (if 0 ≤ t154 then (some (shl .u64 1 t154)) else (none))) = some r := h
  clear h
  replace H := Option.bind_eq_some_iff.mp H
  obtain ⟨t154, A20, H⟩ := H
  replace H : (if 0 ≤ t154 then (some (shl .u64 1 t154)) else (none)) = some r := H
  have A2 := Aside0.mk A20
  clear A20
  by_cases c3 : 0 ≤ t154
  · rw [if_pos c3] at H
    have c3b0 := eq_true c3
    have c3b1 : decide (0 ≤ t154) = true := decide_eq_true c3
    clear c3
    obtain ⟨ji4, hji4⟩ : ∃ j_ : Int, (shl .u64 1 t154) = j_ := ⟨_, rfl⟩
    replace H : (some ji4) = some r := by first | (rw [hji4] at H; exact H) | (simp only [hji4] at H ⊢; exact H)
    (try rw [hji4] at A2)
    have hji4_ : (IntKind.u64.wrap (1 * 2 ^ min t154.toNat 64)) = ji4 := hji4
    have hji4z : t154 ≤ 64 → (IntKind.u64.wrap (1 * 2 ^ t154.toNat)) = ji4 := shl_small hji4
    have hji4n : 0 ≤ (ji4) := by rw [← hji4]; simp only [shl, IntKind.wrap, IntKind.signed, IntKind.bits, Bool.false_and, Bool.false_eq_true, if_false]; exact Int.emod_nonneg _ (by decide)
    have hji4n0 := eq_true hji4n
    have hji4n1 : decide (0 ≤ (ji4)) = true := decide_eq_true hji4n
    clear hji4n
    have hji4u : (IntKind.u64.wrap (2 ^ min t154.toNat 64)) = ji4 := by have h_ := hji4_; rw [Int.one_mul] at h_; exact h_
    have hji4v : t154 ≤ 64 → (IntKind.u64.wrap (2 ^ t154.toNat)) = ji4 := fun hle_ => by have h_ := hji4z hle_; rw [Int.one_mul] at h_; exact h_
    obtain rfl := Option.some.inj H
    go_enter Tryd.func96, Tryd.ntmps96
    go_wp2_with (first | ((with_reducible refine gate_callee (f := 65) rfl ?_); refine goesL_ (some 5) rfl rfl Tryd.func65 (by kernel_rfl) rfl #[.int .u64 (IntKind.u64.wrap (a0))] rfl (by (try simp only [List.map_toArray, List.map_cons, List.map_nil]); first | done | rfl | (simp only [List.length_drop, List.length_take]; rfl)) ?_; (with_reducible refine (bits_Len.calls k (IntKind.u64.wrap (a0)) t154 _ A2.out).mono ?_); rintro e w' ⟨rfl, ⟨nd, rfl⟩⟩; refine ⟨_, rfl, ?_⟩))
    go_ret
    exact ⟨by first | rfl | (simp; done) | (simp only [← hji4] <;> (first | rfl | simp)) | (simp [*]; done), by repeat (first | exact Drawn0.refl _ | apply Drawn0.step)⟩
  · rw [if_neg c3] at H
    exact absurd H (by simp)

-- NOT PRINTED: function 97 (slices_xorshift_Next)

/-! ### slices_breakPatternsOrdered_uint32: function 78 -/
/-- Nothing is told of it: the proof does not come to it. -/
def slices_breakPatternsOrdered_uint32.f (l0 : List Int) (a1 : Int) (a2 : Int) : Option (List Int) := none
theorem slices_breakPatternsOrdered_uint32.calls (P0_ : Nat → Prop) (u9000_ : Value) (l0 : List Int) (a1 : Int) (a2 : Int) (r : List Int) (w0 w : World) (hB : Below w0.heap.size w0 w) (ho0 : Kd.R (Kd.int .u32) 67 w w0.heap.size P0_ u9000_ l0) (h : slices_breakPatternsOrdered_uint32.f l0 a1 a2 = some r) :
    Calls Tryd.prog 78 #[u9000_, .int .i64 a1, .int .i64 a2] w fun e w' => e = .returned (.tuple #[]) ∧ Kd.R (Kd.int .u32) 67 w' w0.heap.size (fun k_ => (P0_ k_ ∨ w.heap.size ≤ k_)) u9000_ r ∧ Below w0.heap.size w0 w' ∧ Kept w w' (fun k_ => P0_ k_) := by
  unfold slices_breakPatternsOrdered_uint32.f at h
  exact absurd h (by simp)

-- NOT PRINTED: function 112 (slices_order2Ordered_uint32)

-- NOT PRINTED: function 99 (slices_medianOrdered_uint32)

-- NOT PRINTED: function 98 (slices_medianAdjacentOrdered_uint32)

/-! ### slices_choosePivotOrdered_uint32: function 79 -/
/-- The box in which the swaps are counted. -/
structure slices_choosePivotOrdered_uint32.Bx (w w' : World) (s : Int) : Prop where
  hb : Below w.heap.size w w'
  hg : w'.heap[w.heap.size]? = some (.cells #[.int .i64 s] 3)
theorem slices_choosePivotOrdered_uint32.Bx.store {w w' : World} {s : Int} (h : slices_choosePivotOrdered_uint32.Bx w w' s) (t : Int) : slices_choosePivotOrdered_uint32.Bx w (w'.setCell ⟨w.heap.size, 0, none⟩ (.int .i64 t)) t :=
  ⟨h.hb.setCell (Nat.le_refl _) _, by rw [heap_setCell_same _ _ _ _ _ _ h.hg]; rfl⟩
theorem slices_choosePivotOrdered_uint32.Bx.drewN {w w' : World} {s : Int} (h : slices_choosePivotOrdered_uint32.Bx w w' s) (n : Nat) : slices_choosePivotOrdered_uint32.Bx w (w'.drewN n) s := ⟨pw_below_drewN h.hb n, h.hg⟩
theorem slices_choosePivotOrdered_uint32.Bx.at {w w' : World} {s : Int} (h : slices_choosePivotOrdered_uint32.Bx w w' s) : w'.cell? ⟨w.heap.size, 0, none⟩ = some (.int .i64 s) := by
  rw [cell_of_row _ _ _ _ _ _ h.hg]
  rfl
theorem slices_choosePivotOrdered_uint32.Bx.fr {w w' : World} {s : Int} (h : slices_choosePivotOrdered_uint32.Bx w w' s) : w'.frozen? ⟨w.heap.size, 0, none⟩ = false := frozen_of_row _ _ _ _ _ h.hg
theorem slices_choosePivotOrdered_uint32.Bx.start (w : World) (s : Int) : slices_choosePivotOrdered_uint32.Bx w (w.alloc (.cells #[.int .i64 s] 3)) s := ⟨below_alloc (Below.refl _ _) _, heap_alloc_new w _⟩
/-- Two places, the lesser first; and whether they have been swapped. -/
def slices_choosePivotOrdered_uint32.o2 (l : List Int) (a b : Int) : Int × Int := if rd l b < rd l a then (b, a) else (a, b)
def slices_choosePivotOrdered_uint32.os (l : List Int) (a b : Int) : Int := if rd l b < rd l a then 1 else 0
theorem slices_choosePivotOrdered_uint32.less (x y : Int) (w : World) : Calls Tryd.prog 82 #[.int .u32 x, .int .u32 y] w fun e w' => e = .returned (.bool (decide (x < y))) ∧ Drawn0 w w' := by
  have h : cmp_Less_uint32.f x y = some (decide (x < y)) := by
    unfold cmp_Less_uint32.f cmp_isNaN_uint32.f
    simp
  exact cmp_Less_uint32.calls x y _ w h
set_option maxHeartbeats 800000 in
set_option maxRecDepth 100000 in
theorem slices_choosePivotOrdered_uint32.order2 (w0 : World) (A : Option Addr) (c : Nat) (l : List Int) (hr : Kd.C (Kd.int .u32) w0 A l.length l) (a b : Int) (h0 : 0 ≤ a) (h1 : a < (l.length : Int)) (h2 : 0 ≤ b) (h3 : b < (l.length : Int)) (s : Int) (hs : 0 ≤ s ∧ s ≤ 100) (w : World) (hX : slices_choosePivotOrdered_uint32.Bx w0 w s) :
    Calls Tryd.prog 112 #[.slice A l.length c, .int .i64 a, .int .i64 b, .pointer (some ⟨w0.heap.size, 0, none⟩)] w fun e w' => e = .returned (.tuple #[.int .i64 (slices_choosePivotOrdered_uint32.o2 l a b).1, .int .i64 (slices_choosePivotOrdered_uint32.o2 l a b).2]) ∧ Aside0 (slices_choosePivotOrdered_uint32.Bx w0 w' (s + slices_choosePivotOrdered_uint32.os l a b)) := by
  have HC := Kd.C_below hr hX.hb
  obtain ⟨ad, rfl, ca⟩ := Kd.at_int HC a h0 h1
  obtain ⟨ad', e', cb⟩ := Kd.at_int HC b h2 h3
  cases e'
  clear HC hr
  have gb := hX.at
  have gf := hX.fr
  have HX := Aside0.mk hX
  have ew : wrap64 (s + 1) = s + 1 := by unfold wrap64; omega
  have ew2 : IntKind.i64.wrap (s + 1) = s + 1 := by rw [i64_w]; exact ew
  clear hX hs
  unfold slices_choosePivotOrdered_uint32.o2 slices_choosePivotOrdered_uint32.os
  generalize rd l a = x at ca ⊢
  generalize rd l b = y at cb ⊢
  by_cases c : y < x
  · rw [if_pos c, if_pos c]
    have L := fun W => (slices_choosePivotOrdered_uint32.less y x W).mono (R' := fun e w' => e = .returned (.bool true) ∧ Drawn0 W w') (fun e w' h => ⟨by rw [h.1, decide_eq_true c], h.2⟩)
    have LL := Aside0.mk L
    clear L c
    go_enter Tryd.func112, Tryd.ntmps112
    go_wp2_with fail
    go_quiet (first | (go_at_call 82; (with_reducible refine (LL.out _).mono ?_); rintro e w' ⟨rfl, ⟨nd, rfl⟩⟩; (first | exact ⟨rfl, _, World.drewN_drewN _ _ _⟩ | exact ⟨rfl, _, Eq.trans (World.drewN_drewN _ _ _) (congrArg (World.drewN _) (Nat.add_assoc _ _ _))⟩)))
    go_wp2_with fail
    go_ret2
    exact ⟨rfl, ⟨(HX.out.drewN _).store _⟩⟩
  · rw [if_neg c, if_neg c]
    have L := fun W => (slices_choosePivotOrdered_uint32.less y x W).mono (R' := fun e w' => e = .returned (.bool false) ∧ Drawn0 W w') (fun e w' h => ⟨by rw [h.1, decide_eq_false c], h.2⟩)
    have LL := Aside0.mk L
    clear L c
    go_enter Tryd.func112, Tryd.ntmps112
    go_wp2_with fail
    go_quiet (first | (go_at_call 82; (with_reducible refine (LL.out _).mono ?_); rintro e w' ⟨rfl, ⟨nd, rfl⟩⟩; (first | exact ⟨rfl, _, World.drewN_drewN _ _ _⟩ | exact ⟨rfl, _, Eq.trans (World.drewN_drewN _ _ _) (congrArg (World.drewN _) (Nat.add_assoc _ _ _))⟩)))
    go_wp2_with fail
    go_ret2
    exact ⟨rfl, ⟨by rw [Int.add_zero]; exact HX.out.drewN _⟩⟩
theorem slices_choosePivotOrdered_uint32.o2_in (l : List Int) (a b lo hi : Int) (h0 : lo ≤ a) (h1 : a < hi) (h2 : lo ≤ b) (h3 : b < hi) : (lo ≤ (slices_choosePivotOrdered_uint32.o2 l a b).1 ∧ (slices_choosePivotOrdered_uint32.o2 l a b).1 < hi) ∧ lo ≤ (slices_choosePivotOrdered_uint32.o2 l a b).2 ∧ (slices_choosePivotOrdered_uint32.o2 l a b).2 < hi := by
  unfold slices_choosePivotOrdered_uint32.o2
  split
  · exact ⟨⟨h2, h3⟩, h0, h1⟩
  · exact ⟨⟨h0, h1⟩, h2, h3⟩
theorem slices_choosePivotOrdered_uint32.os_in (l : List Int) (a b : Int) : 0 ≤ slices_choosePivotOrdered_uint32.os l a b ∧ slices_choosePivotOrdered_uint32.os l a b ≤ 1 := by
  unfold slices_choosePivotOrdered_uint32.os
  split <;> omega
/-- The middle one of three places, and the swaps behind it. -/
def slices_choosePivotOrdered_uint32.md (l : List Int) (a b c s : Int) : Int × Int :=
  ((slices_choosePivotOrdered_uint32.o2 l (slices_choosePivotOrdered_uint32.o2 l a b).1 (slices_choosePivotOrdered_uint32.o2 l (slices_choosePivotOrdered_uint32.o2 l a b).2 c).1).2, s + slices_choosePivotOrdered_uint32.os l a b + slices_choosePivotOrdered_uint32.os l (slices_choosePivotOrdered_uint32.o2 l a b).2 c + slices_choosePivotOrdered_uint32.os l (slices_choosePivotOrdered_uint32.o2 l a b).1 (slices_choosePivotOrdered_uint32.o2 l (slices_choosePivotOrdered_uint32.o2 l a b).2 c).1)
theorem slices_choosePivotOrdered_uint32.md_in (l : List Int) (a b c s lo hi : Int) (h0 : lo ≤ a) (h1 : a < hi) (h2 : lo ≤ b) (h3 : b < hi) (h4 : lo ≤ c) (h5 : c < hi) : (lo ≤ (slices_choosePivotOrdered_uint32.md l a b c s).1 ∧ (slices_choosePivotOrdered_uint32.md l a b c s).1 < hi) ∧ s ≤ (slices_choosePivotOrdered_uint32.md l a b c s).2 ∧ (slices_choosePivotOrdered_uint32.md l a b c s).2 ≤ s + 3 := by
  have p := slices_choosePivotOrdered_uint32.o2_in l a b lo hi h0 h1 h2 h3
  have q := slices_choosePivotOrdered_uint32.o2_in l (slices_choosePivotOrdered_uint32.o2 l a b).2 c lo hi p.2.1 p.2.2 h4 h5
  have r := slices_choosePivotOrdered_uint32.o2_in l (slices_choosePivotOrdered_uint32.o2 l a b).1 (slices_choosePivotOrdered_uint32.o2 l (slices_choosePivotOrdered_uint32.o2 l a b).2 c).1 lo hi p.1.1 p.1.2 q.1.1 q.1.2
  have s1 := slices_choosePivotOrdered_uint32.os_in l a b
  have s2 := slices_choosePivotOrdered_uint32.os_in l (slices_choosePivotOrdered_uint32.o2 l a b).2 c
  have s3 := slices_choosePivotOrdered_uint32.os_in l (slices_choosePivotOrdered_uint32.o2 l a b).1 (slices_choosePivotOrdered_uint32.o2 l (slices_choosePivotOrdered_uint32.o2 l a b).2 c).1
  unfold slices_choosePivotOrdered_uint32.md
  refine ⟨r.2, ?_, ?_⟩ <;> simp only <;> omega
set_option maxHeartbeats 800000 in
set_option maxRecDepth 100000 in
theorem slices_choosePivotOrdered_uint32.median (w0 : World) (A : Option Addr) (cp : Nat) (l : List Int) (hr : Kd.C (Kd.int .u32) w0 A l.length l) (a b c : Int) (h0 : 0 ≤ a) (h1 : a < (l.length : Int)) (h2 : 0 ≤ b) (h3 : b < (l.length : Int)) (h4 : 0 ≤ c) (h5 : c < (l.length : Int)) (s : Int) (hs : 0 ≤ s ∧ s ≤ 50) (w : World) (hX : slices_choosePivotOrdered_uint32.Bx w0 w s) :
    Calls Tryd.prog 99 #[.slice A l.length cp, .int .i64 a, .int .i64 b, .int .i64 c, .pointer (some ⟨w0.heap.size, 0, none⟩)] w fun e w' => e = .returned (.int .i64 (slices_choosePivotOrdered_uint32.md l a b c s).1) ∧ Aside0 (slices_choosePivotOrdered_uint32.Bx w0 w' (slices_choosePivotOrdered_uint32.md l a b c s).2) := by
  unfold slices_choosePivotOrdered_uint32.md
  have s1 := slices_choosePivotOrdered_uint32.os_in l a b
  have s2 := slices_choosePivotOrdered_uint32.os_in l (slices_choosePivotOrdered_uint32.o2 l a b).2 c
  have s3 := slices_choosePivotOrdered_uint32.os_in l (slices_choosePivotOrdered_uint32.o2 l a b).1 (slices_choosePivotOrdered_uint32.o2 l (slices_choosePivotOrdered_uint32.o2 l a b).2 c).1
  have r1 := slices_choosePivotOrdered_uint32.o2_in l a b 0 l.length h0 h1 h2 h3
  have r2 := slices_choosePivotOrdered_uint32.o2_in l (slices_choosePivotOrdered_uint32.o2 l a b).2 c 0 l.length r1.2.1 r1.2.2 h4 h5
  have C1 := Aside0.mk (fun w hX => slices_choosePivotOrdered_uint32.order2 w0 A cp l hr a b h0 h1 h2 h3 s ⟨by omega, by omega⟩ w hX)
  have C2 := Aside0.mk (fun w hX => slices_choosePivotOrdered_uint32.order2 w0 A cp l hr (slices_choosePivotOrdered_uint32.o2 l a b).2 c r1.2.1 r1.2.2 h4 h5 (s + slices_choosePivotOrdered_uint32.os l a b) ⟨by omega, by omega⟩ w hX)
  have C3 := Aside0.mk (fun w hX => slices_choosePivotOrdered_uint32.order2 w0 A cp l hr (slices_choosePivotOrdered_uint32.o2 l a b).1 (slices_choosePivotOrdered_uint32.o2 l (slices_choosePivotOrdered_uint32.o2 l a b).2 c).1 r1.1.1 r1.1.2 r2.1.1 r2.1.2 (s + slices_choosePivotOrdered_uint32.os l a b + slices_choosePivotOrdered_uint32.os l (slices_choosePivotOrdered_uint32.o2 l a b).2 c) ⟨by omega, by omega⟩ w hX)
  have HX := Aside0.mk hX
  clear hX hs s1 s2 s3 r1 r2 hr h0 h1 h2 h3 h4 h5
  generalize slices_choosePivotOrdered_uint32.os l (slices_choosePivotOrdered_uint32.o2 l a b).1 (slices_choosePivotOrdered_uint32.o2 l (slices_choosePivotOrdered_uint32.o2 l a b).2 c).1 = S3 at *
  generalize slices_choosePivotOrdered_uint32.o2 l (slices_choosePivotOrdered_uint32.o2 l a b).1 (slices_choosePivotOrdered_uint32.o2 l (slices_choosePivotOrdered_uint32.o2 l a b).2 c).1 = P3 at *
  generalize slices_choosePivotOrdered_uint32.os l (slices_choosePivotOrdered_uint32.o2 l a b).2 c = S2 at *
  generalize slices_choosePivotOrdered_uint32.o2 l (slices_choosePivotOrdered_uint32.o2 l a b).2 c = P2 at *
  generalize slices_choosePivotOrdered_uint32.os l a b = S1 at *
  generalize slices_choosePivotOrdered_uint32.o2 l a b = P1 at *
  obtain ⟨P1a, P1b⟩ := P1
  obtain ⟨P2a, P2b⟩ := P2
  obtain ⟨P3a, P3b⟩ := P3
  simp only at C1 C2 C3
  go_enter Tryd.func99, Tryd.ntmps99
  go_wp2_with fail
  go_at_call 112
  refine (C1.out _ (by first | exact HX.out | exact HX.out.drewN _)).mono ?_
  rintro e w1 ⟨rfl, H1⟩
  go_wp2_with fail
  go_at_call 112
  refine (C2.out _ (by first | exact H1.out | exact H1.out.drewN _)).mono ?_
  rintro e w2 ⟨rfl, H2⟩
  go_wp2_with fail
  go_at_call 112
  refine (C3.out _ (by first | exact H2.out | exact H2.out.drewN _)).mono ?_
  rintro e w3 ⟨rfl, H3⟩
  go_wp2_with fail
  go_ret
  exact ⟨rfl, ⟨by first | exact H3.out | exact H3.out.drewN _⟩⟩
set_option maxHeartbeats 800000 in
set_option maxRecDepth 100000 in
theorem slices_choosePivotOrdered_uint32.medAdj (w0 : World) (A : Option Addr) (cp : Nat) (l : List Int) (hr : Kd.C (Kd.int .u32) w0 A l.length l) (a : Int) (h1 : 1 ≤ a) (h2 : a + 1 < (l.length : Int)) (hn : a ≤ 1000) (s : Int) (hs : 0 ≤ s ∧ s ≤ 50) (w : World) (hX : slices_choosePivotOrdered_uint32.Bx w0 w s) :
    Calls Tryd.prog 98 #[.slice A l.length cp, .int .i64 a, .pointer (some ⟨w0.heap.size, 0, none⟩)] w fun e w' => e = .returned (.int .i64 (slices_choosePivotOrdered_uint32.md l (a - 1) a (a + 1) s).1) ∧ Aside0 (slices_choosePivotOrdered_uint32.Bx w0 w' (slices_choosePivotOrdered_uint32.md l (a - 1) a (a + 1) s).2) := by
  have C1 := Aside0.mk (fun w hX => slices_choosePivotOrdered_uint32.median w0 A cp l hr (a - 1) a (a + 1) (by omega) (by omega) (by omega) (by omega) (by omega) (by omega) s hs w hX)
  have HX := Aside0.mk hX
  have e1 : IntKind.i64.wrap (a - 1) = a - 1 := by rw [i64_w]; unfold wrap64; omega
  have e2 : wrap64 (a - 1) = a - 1 := by unfold wrap64; omega
  have e3 : IntKind.i64.wrap (a + 1) = a + 1 := by rw [i64_w]; unfold wrap64; omega
  have e4 : wrap64 (a + 1) = a + 1 := by unfold wrap64; omega
  clear hX hs hr h1 h2 hn
  generalize slices_choosePivotOrdered_uint32.md l (a - 1) a (a + 1) s = P1 at *
  obtain ⟨P1a, P1b⟩ := P1
  simp only at C1
  go_enter Tryd.func98, Tryd.ntmps98
  go_wp2_with fail
  go_at_call 99
  refine (C1.out _ (by first | exact HX.out | exact HX.out.drewN _)).mono ?_
  rintro e w1 ⟨rfl, H1⟩
  go_wp2_with fail
  go_ret
  exact ⟨rfl, ⟨by first | exact H1.out | exact H1.out.drewN _⟩⟩
def slices_choosePivotOrdered_uint32.mid (l : List Int) (i j k n : Int) : Int × Int :=
  if n ≥ 50 then
    slices_choosePivotOrdered_uint32.md l (slices_choosePivotOrdered_uint32.md l (i - 1) i (i + 1) 0).1 (slices_choosePivotOrdered_uint32.md l (j - 1) j (j + 1) (slices_choosePivotOrdered_uint32.md l (i - 1) i (i + 1) 0).2).1 (slices_choosePivotOrdered_uint32.md l (k - 1) k (k + 1) (slices_choosePivotOrdered_uint32.md l (j - 1) j (j + 1) (slices_choosePivotOrdered_uint32.md l (i - 1) i (i + 1) 0).2).2).1 (slices_choosePivotOrdered_uint32.md l (k - 1) k (k + 1) (slices_choosePivotOrdered_uint32.md l (j - 1) j (j + 1) (slices_choosePivotOrdered_uint32.md l (i - 1) i (i + 1) 0).2).2).2
  else slices_choosePivotOrdered_uint32.md l i j k 0
/-- The place of the pivot, and what the swaps tell. -/
def slices_choosePivotOrdered_uint32.f (l0 : List Int) (a1 : Int) (a2 : Int) : Option (Int × Int) :=
  if 0 ≤ a1 ∧ a2 ≤ (l0.length : Int) ∧ 13 ≤ a2 - a1 ∧ (l0.length : Int) ≤ 900 then
    some (if (slices_choosePivotOrdered_uint32.mid l0 (a1 + (a2 - a1) / 4) (a1 + (a2 - a1) / 4 * 2) (a1 + (a2 - a1) / 4 * 3) (a2 - a1)).2 = 0 then ((slices_choosePivotOrdered_uint32.mid l0 (a1 + (a2 - a1) / 4) (a1 + (a2 - a1) / 4 * 2) (a1 + (a2 - a1) / 4 * 3) (a2 - a1)).1, 1)
      else if (slices_choosePivotOrdered_uint32.mid l0 (a1 + (a2 - a1) / 4) (a1 + (a2 - a1) / 4 * 2) (a1 + (a2 - a1) / 4 * 3) (a2 - a1)).2 = 12 then ((slices_choosePivotOrdered_uint32.mid l0 (a1 + (a2 - a1) / 4) (a1 + (a2 - a1) / 4 * 2) (a1 + (a2 - a1) / 4 * 3) (a2 - a1)).1, 2)
      else ((slices_choosePivotOrdered_uint32.mid l0 (a1 + (a2 - a1) / 4) (a1 + (a2 - a1) / 4 * 2) (a1 + (a2 - a1) / 4 * 3) (a2 - a1)).1, 0))
  else none
set_option maxHeartbeats 3200000 in
set_option maxRecDepth 100000 in
theorem slices_choosePivotOrdered_uint32.choose (A : Option Addr) (cp : Nat) (l : List Int) (a b n q : Int) (hn : b - a = n) (hq : n / 4 = q) (h0 : 0 ≤ a) (h1 : b ≤ (l.length : Int)) (h2 : 13 ≤ n) (h3 : (l.length : Int) ≤ 900) (w : World) (hr : Kd.C (Kd.int .u32) w A l.length l) (r : Int × Int) (hR : slices_choosePivotOrdered_uint32.mid l (a + q) (a + q * 2) (a + q * 3) n = r) :
    Calls Tryd.prog 79 #[.slice A l.length cp, .int .i64 a, .int .i64 b] w fun e w' => e = .returned (.tuple #[.int .i64 r.1, .int .i64 (if r.2 = 0 then 1 else if r.2 = 12 then 2 else 0)]) ∧ Below w.heap.size w w' := by
  have ht : Int.tdiv n 4 = q := by rw [← hq, Int.tdiv_eq_ediv_of_nonneg (by omega)]
  have wn : wrap64 (b - a) = n := by unfold wrap64; omega
  have w1 : wrap64 q = q := by unfold wrap64; omega
  have w2 : wrap64 (q * 2) = q * 2 := by unfold wrap64; omega
  have w3 : wrap64 (q * 3) = q * 3 := by unfold wrap64; omega
  have x1 : wrap64 (a + q) = a + q := by unfold wrap64; omega
  have x2 : wrap64 (a + q * 2) = a + q * 2 := by unfold wrap64; omega
  have x3 : wrap64 (a + q * 3) = a + q * 3 := by unfold wrap64; omega
  have un : IntKind.i64.wrap (b - a) = n := by rw [i64_w]; exact wn
  have u1 : IntKind.i64.wrap q = q := by rw [i64_w]; exact w1
  have u2 : IntKind.i64.wrap (q * 2) = q * 2 := by rw [i64_w]; exact w2
  have u3 : IntKind.i64.wrap (q * 3) = q * 3 := by rw [i64_w]; exact w3
  have y1 : IntKind.i64.wrap (a + q) = a + q := by rw [i64_w]; exact x1
  have y2 : IntKind.i64.wrap (a + q * 2) = a + q * 2 := by rw [i64_w]; exact x2
  have y3 : IntKind.i64.wrap (a + q * 3) = a + q * 3 := by rw [i64_w]; exact x3
  have hS := Aside0.mk (slices_choosePivotOrdered_uint32.Bx.start w 0)
  have h8b : decide (n ≥ 8) = true := decide_eq_true (by omega)
  have pi : 1 ≤ a + q ∧ a + q + 1 < (l.length : Int) := by omega
  have pj : 1 ≤ a + q * 2 ∧ a + q * 2 + 1 < (l.length : Int) := by omega
  have pk : 1 ≤ a + q * 3 ∧ a + q * 3 + 1 < (l.length : Int) := by omega
  obtain ⟨i, hi⟩ : ∃ i, i = a + q := ⟨_, rfl⟩
  obtain ⟨j, hj⟩ : ∃ j, j = a + q * 2 := ⟨_, rfl⟩
  obtain ⟨k, hk⟩ : ∃ k, k = a + q * 3 := ⟨_, rfl⟩
  rw [← hi] at x1 y1 pi hR
  rw [← hj] at x2 y2 pj hR
  rw [← hk] at x3 y3 pk hR
  unfold slices_choosePivotOrdered_uint32.mid at hR
  by_cases h50 : n ≥ 50
  · rw [if_pos h50] at hR
    have h50b : decide (n ≥ 50) = true := decide_eq_true h50
    have m1 := slices_choosePivotOrdered_uint32.md_in l (i - 1) i (i + 1) 0 0 l.length (by omega) (by omega) (by omega) (by omega) (by omega) (by omega)
    have C1 := Aside0.mk (fun v hX => slices_choosePivotOrdered_uint32.medAdj w A cp l hr i pi.1 pi.2 (by omega) 0 ⟨by omega, by omega⟩ v hX)
    generalize slices_choosePivotOrdered_uint32.md l (i - 1) i (i + 1) 0 = M1 at *
    have m2 := slices_choosePivotOrdered_uint32.md_in l (j - 1) j (j + 1) M1.2 0 l.length (by omega) (by omega) (by omega) (by omega) (by omega) (by omega)
    have C2 := Aside0.mk (fun v hX => slices_choosePivotOrdered_uint32.medAdj w A cp l hr j pj.1 pj.2 (by omega) M1.2 ⟨by omega, by omega⟩ v hX)
    generalize slices_choosePivotOrdered_uint32.md l (j - 1) j (j + 1) M1.2 = M2 at *
    have m3 := slices_choosePivotOrdered_uint32.md_in l (k - 1) k (k + 1) M2.2 0 l.length (by omega) (by omega) (by omega) (by omega) (by omega) (by omega)
    have C3 := Aside0.mk (fun v hX => slices_choosePivotOrdered_uint32.medAdj w A cp l hr k pk.1 pk.2 (by omega) M2.2 ⟨by omega, by omega⟩ v hX)
    generalize slices_choosePivotOrdered_uint32.md l (k - 1) k (k + 1) M2.2 = M3 at *
    have C4 := Aside0.mk (fun v hX => slices_choosePivotOrdered_uint32.median w A cp l hr M1.1 M2.1 M3.1 m1.1.1 m1.1.2 m2.1.1 m2.1.2 m3.1.1 m3.1.2 M3.2 ⟨by omega, by omega⟩ v hX)
    rw [hR] at C4
    obtain ⟨r1, r2⟩ := r
    obtain ⟨a1, b1⟩ := M1
    obtain ⟨a2, b2⟩ := M2
    obtain ⟨a3, b3⟩ := M3
    simp only at C1 C2 C3 C4
    have hii := hi.symm
    have hjj := hj.symm
    have hkk := hk.symm
    clear m1 m2 m3 hR hr pi pj pk hi hj hk
    go_enter Tryd.func79, Tryd.ntmps79
    go_wp2_with fail
    go_at_call 98
    refine (C1.out _ (by first | exact hS.out | exact hS.out.drewN _)).mono ?_
    rintro e w1 ⟨rfl, H1⟩
    go_wp2_with fail
    go_at_call 98
    refine (C2.out _ (by first | exact H1.out | exact H1.out.drewN _)).mono ?_
    rintro e w2 ⟨rfl, H2⟩
    go_wp2_with fail
    go_at_call 98
    refine (C3.out _ (by first | exact H2.out | exact H2.out.drewN _)).mono ?_
    rintro e w3 ⟨rfl, H3⟩
    go_wp2_with fail
    go_at_call 99
    refine (C4.out _ (by first | exact H3.out | exact H3.out.drewN _)).mono ?_
    rintro e w4 ⟨rfl, H4⟩
    have gb := H4.out.at
    have hb := H4.out.hb
    have hbb := Aside0.mk hb
    clear H4 hb
    by_cases z0 : r2 = 0
    · subst z0
      go_wp2_with fail
      go_ret2
      exact ⟨rfl, by first | exact hbb.out | exact pw_below_drewN hbb.out _⟩
    · have z0b : decide (r2 = 0) = false := decide_eq_false z0
      by_cases z1 : r2 = 12
      · subst z1
        go_wp2_with fail
        go_ret2
        exact ⟨rfl, by first | exact hbb.out | exact pw_below_drewN hbb.out _⟩
      · have z1b : decide (r2 = 12) = false := decide_eq_false z1
        go_wp2_with fail
        go_ret2
        exact ⟨rfl, by first | exact hbb.out | exact pw_below_drewN hbb.out _⟩
  · rw [if_neg h50] at hR
    have h50b : decide (n ≥ 50) = false := decide_eq_false h50
    have C4 := Aside0.mk (fun v hX => slices_choosePivotOrdered_uint32.median w A cp l hr i j k (by omega) (by omega) (by omega) (by omega) (by omega) (by omega) 0 ⟨by omega, by omega⟩ v hX)
    rw [hR] at C4
    obtain ⟨r1, r2⟩ := r
    simp only at C4
    have hii := hi.symm
    have hjj := hj.symm
    have hkk := hk.symm
    clear hR hr pi pj pk hi hj hk
    go_enter Tryd.func79, Tryd.ntmps79
    go_wp2_with fail
    go_at_call 99
    refine (C4.out _ (by first | exact hS.out | exact hS.out.drewN _)).mono ?_
    rintro e w4 ⟨rfl, H4⟩
    have gb := H4.out.at
    have hb := H4.out.hb
    have hbb := Aside0.mk hb
    clear H4 hb
    by_cases z0 : r2 = 0
    · subst z0
      go_wp2_with fail
      go_ret2
      exact ⟨rfl, by first | exact hbb.out | exact pw_below_drewN hbb.out _⟩
    · have z0b : decide (r2 = 0) = false := decide_eq_false z0
      by_cases z1 : r2 = 12
      · subst z1
        go_wp2_with fail
        go_ret2
        exact ⟨rfl, by first | exact hbb.out | exact pw_below_drewN hbb.out _⟩
      · have z1b : decide (r2 = 12) = false := decide_eq_false z1
        go_wp2_with fail
        go_ret2
        exact ⟨rfl, by first | exact hbb.out | exact pw_below_drewN hbb.out _⟩
theorem slices_choosePivotOrdered_uint32.calls (A0 : Option Addr) (c0 : Nat) (l0 : List Int) (a1 : Int) (a2 : Int) (r1 : Int) (r2 : Int) (w : World) (hr0 : Kd.C (Kd.int .u32) w A0 l0.length l0) (hc0 : l0.length ≤ c0) (h : slices_choosePivotOrdered_uint32.f l0 a1 a2 = some (r1, r2)) :
    Calls Tryd.prog 79 #[.slice A0 l0.length c0, .int .i64 a1, .int .i64 a2] w fun e w' => e = .returned (.tuple #[.int .i64 r1, .int .i64 r2]) ∧ Below w.heap.size w w' := by
  unfold slices_choosePivotOrdered_uint32.f at h
  by_cases hc : 0 ≤ a1 ∧ a2 ≤ (l0.length : Int) ∧ 13 ≤ a2 - a1 ∧ (l0.length : Int) ≤ 900
  · rw [if_pos hc] at h
    have hh := slices_choosePivotOrdered_uint32.choose A0 c0 l0 a1 a2 (a2 - a1) ((a2 - a1) / 4) rfl rfl hc.1 hc.2.1 hc.2.2.1 hc.2.2.2 w hr0 _ rfl
    have h2 := Option.some.inj h
    refine hh.mono ?_
    rintro e w' ⟨rfl, hb⟩
    refine ⟨?_, hb⟩
    split at h2
    · rename_i z
      injection h2 with e1 e2
      rw [if_pos z, ← e1, ← e2]
    · rename_i z
      rw [if_neg z]
      split at h2
      · rename_i z2
        injection h2 with e1 e2
        rw [if_pos z2, ← e1, ← e2]
      · rename_i z2
        injection h2 with e1 e2
        rw [if_neg z2, ← e1, ← e2]
  · rw [if_neg hc] at h
    exact absurd h (by simp)

/-! ### slices_reverseRangeOrdered_uint32: function 80 -/
/-- Nothing is told of it: the proof does not come to it. -/
def slices_reverseRangeOrdered_uint32.f (l0 : List Int) (a1 : Int) (a2 : Int) : Option (List Int) := none
theorem slices_reverseRangeOrdered_uint32.calls (P0_ : Nat → Prop) (u9000_ : Value) (l0 : List Int) (a1 : Int) (a2 : Int) (r : List Int) (w0 w : World) (hB : Below w0.heap.size w0 w) (ho0 : Kd.R (Kd.int .u32) 67 w w0.heap.size P0_ u9000_ l0) (h : slices_reverseRangeOrdered_uint32.f l0 a1 a2 = some r) :
    Calls Tryd.prog 80 #[u9000_, .int .i64 a1, .int .i64 a2] w fun e w' => e = .returned (.tuple #[]) ∧ Kd.R (Kd.int .u32) 67 w' w0.heap.size (fun k_ => (P0_ k_ ∨ w.heap.size ≤ k_)) u9000_ r ∧ Below w0.heap.size w0 w' ∧ Kept w w' (fun k_ => P0_ k_) := by
  unfold slices_reverseRangeOrdered_uint32.f at h
  exact absurd h (by simp)

end Go.Proofs.YtdgglnjegkmamaaDoor.QFnExactRectangleByExclusion
