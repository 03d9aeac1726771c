/- Written by the session's own program (wip/myprint.py), for the law FnExactAddGames: each function as a plain Lean function, and its contract. -/
import Derived.Test.YteinllalhiflcaaQFnExactAddGamesx0
import Derived.Test.YteinllalhiflcaaQFnExactAddGamesx3
import Derived.Test.YteinllalhiflcaaQFnExactAddGamesx7
namespace Go.Proofs.Yteinllalhiflcaa.QFnExactAddGames
open Go.RowKit Go.Proofs.YteinllalhiflcaaW.PrintWords Go.Proofs.YteinllalhiflcaaW.PrintLast Go.Proofs.YteinllalhiflcaaW.PrintMore
attribute [local go_sem] max2_int min2_int max_two min_two max_three min_three max_four min_four   -- for this text's walks alone
set_option linter.unusedVariables false
set_option linter.unusedSimpArgs false

/-! ### impl_AddGames: function 33 -/
mutual
def impl_AddGames.j0 : Nat → List (List Int) → List (List Int) → Bool → Option ((List (List Int)) × Int)
  | 0, _, _, _ => none
  | k + 1, x0, x1, x17 => if x17 = true then (some (([] : List (List Int)), 1)) else (if (wrap64 ((x0.length : Int) * (x1.length : Int))) > 60 then (some (([] : List (List Int)), 3)) else (impl_AddGames.l0 k x0 (([] : List (List Int))) (IntKind.i8.wrap ((x0.length : Int))) x1 (x1.length : Int) 0))
def impl_AddGames.l0 : Nat → List (List Int) → List (List Int) → Int → List (List Int) → Int → Int → Option ((List (List Int)) × Int)
  | 0, _, _, _, _, _, _ => none
  | k + 1, x0, x6, x7, x37, x38, x39 => if x39 < x38 then (if 0 ≤ x39 then (if x39 < (x37.length : Int) then (impl_AddGames.l1 k x0 x6 x7 x39 (rd_L1 x37 x39) x37 x38 x39 x0 (x0.length : Int) 0) else (none)) else (none)) else (some (x6, 0))
def impl_AddGames.l1 : Nat → List (List Int) → List (List Int) → Int → Int → List Int → List (List Int) → Int → Int → List (List Int) → Int → Int → Option ((List (List Int)) × Int)
  | 0, _, _, _, _, _, _, _, _, _, _, _ => none
  | k + 1, x0, x6, x7, x8, x9, x37, x38, x39, x44, x45, x46 => if x46 < x45 then (if 0 ≤ x46 then (if x46 < (x44.length : Int) then (impl_AddGames.l2 k x0 x6 x7 x8 x9 x46 (rd_L1 x44 x46) (([] : List Int)) x37 x38 x39 x44 x45 x46 x9 (x9.length : Int) 0) else (none)) else (none)) else (impl_AddGames.l0 k x0 x6 x7 x37 x38 (wrap64 (x39 + 1)))
def impl_AddGames.l2 : Nat → List (List Int) → List (List Int) → Int → Int → List Int → Int → List Int → List Int → List (List Int) → Int → Int → List (List Int) → Int → Int → List Int → Int → Int → Option ((List (List Int)) × Int)
  | 0, _, _, _, _, _, _, _, _, _, _, _, _, _, _, _, _, _ => none
  | k + 1, x0, x6, x7, x8, x9, x10, x11, x12, x37, x38, x39, x44, x45, x46, x52, x53, x54 => if x54 < x53 then (if 0 ≤ x54 then (if x54 < (x52.length : Int) then (if x12.length < 140737488355328 then (impl_AddGames.l2 k x0 x6 x7 x8 x9 x10 x11 (x12 ++ [IntKind.i8.wrap ((IntKind.i8.wrap (x10)) + (IntKind.i8.wrap (x7 * (rd x52 x54))))]) x37 x38 x39 x44 x45 x46 x52 x53 (wrap64 (x54 + 1))) else (none)) else (none)) else (none)) else (impl_AddGames.l3 k x0 x6 x7 x8 x9 x12 x37 x38 x39 x44 x45 x46 x11 (x11.length : Int) 0)
def impl_AddGames.l3 : Nat → List (List Int) → List (List Int) → Int → Int → List Int → List Int → List (List Int) → Int → Int → List (List Int) → Int → Int → List Int → Int → Int → Option ((List (List Int)) × Int)
  | 0, _, _, _, _, _, _, _, _, _, _, _, _, _, _, _ => none
  | k + 1, x0, x6, x7, x8, x9, x12, x37, x38, x39, x44, x45, x46, x68, x69, x70 => if x70 < x69 then (if 0 ≤ x70 then (if x70 < (x68.length : Int) then (if x12.length < 140737488355328 then (impl_AddGames.l3 k x0 x6 x7 x8 x9 (x12 ++ [IntKind.i8.wrap ((rd x68 x70) + (IntKind.i8.wrap (x7 * (IntKind.i8.wrap (x8)))))]) x37 x38 x39 x44 x45 x46 x68 x69 (wrap64 (x70 + 1))) else (none)) else (none)) else (none)) else ((slices_Sort_int8_int8.f k x12).bind fun t227 => (if x6.length < 5864062014805 then (impl_AddGames.l1 k x0 (x6 ++ [t227]) x7 x8 x9 x37 x38 x39 x44 x45 (wrap64 (x46 + 1))) else (none)))
end
def impl_AddGames.f (k : Nat) (l0 : List (List Int)) (l1 : List (List Int)) : Option ((List (List Int)) × Int) := (impl_ValidGame.f k l0).bind fun t209 => (if t209 = true then ((impl_ValidGame.f k l1).bind fun t210 => (impl_AddGames.j0 k l0 l1 (!t210))) else (impl_AddGames.j0 k l0 l1 true))
theorem impl_AddGames.mono_l : ∀ k, (∀ y0 y1 y2, LeO (impl_AddGames.j0 k y0 y1 y2) (impl_AddGames.j0 (k + 1) y0 y1 y2)) ∧ (∀ y0 y1 y2 y3 y4 y5, LeO (impl_AddGames.l0 k y0 y1 y2 y3 y4 y5) (impl_AddGames.l0 (k + 1) y0 y1 y2 y3 y4 y5)) ∧ (∀ y0 y1 y2 y3 y4 y5 y6 y7 y8 y9 y10, LeO (impl_AddGames.l1 k y0 y1 y2 y3 y4 y5 y6 y7 y8 y9 y10) (impl_AddGames.l1 (k + 1) y0 y1 y2 y3 y4 y5 y6 y7 y8 y9 y10)) ∧ (∀ y0 y1 y2 y3 y4 y5 y6 y7 y8 y9 y10 y11 y12 y13 y14 y15 y16, LeO (impl_AddGames.l2 k y0 y1 y2 y3 y4 y5 y6 y7 y8 y9 y10 y11 y12 y13 y14 y15 y16) (impl_AddGames.l2 (k + 1) y0 y1 y2 y3 y4 y5 y6 y7 y8 y9 y10 y11 y12 y13 y14 y15 y16)) ∧ (∀ y0 y1 y2 y3 y4 y5 y6 y7 y8 y9 y10 y11 y12 y13 y14, LeO (impl_AddGames.l3 k y0 y1 y2 y3 y4 y5 y6 y7 y8 y9 y10 y11 y12 y13 y14) (impl_AddGames.l3 (k + 1) y0 y1 y2 y3 y4 y5 y6 y7 y8 y9 y10 y11 y12 y13 y14))
  | 0 => ⟨fun _ _ _ r h => by simp [impl_AddGames.j0] at h, fun _ _ _ _ _ _ r h => by simp [impl_AddGames.l0] at h, fun _ _ _ _ _ _ _ _ _ _ _ r h => by simp [impl_AddGames.l1] at h, fun _ _ _ _ _ _ _ _ _ _ _ _ _ _ _ _ _ r h => by simp [impl_AddGames.l2] at h, fun _ _ _ _ _ _ _ _ _ _ _ _ _ _ _ r h => by simp [impl_AddGames.l3] at h⟩
  | k + 1 => by
    obtain ⟨ih0, ih1, ih2, ih3, ih4⟩ := impl_AddGames.mono_l k
    refine ⟨?_, ?_, ?_, ?_, ?_⟩
    · intro y0 y1 y2
      unfold impl_AddGames.j0
      repeat' first
      | (with_reducible exact ih0 _ _ _)
      | (with_reducible exact ih1 _ _ _ _ _ _)
      | (with_reducible exact ih2 _ _ _ _ _ _ _ _ _ _ _)
      | (with_reducible exact ih3 _ _ _ _ _ _ _ _ _ _ _ _ _ _ _ _ _)
      | (with_reducible exact ih4 _ _ _ _ _ _ _ _ _ _ _ _ _ _ _)
      | (with_reducible exact impl_ValidGame.mono _ _)
      | (with_reducible exact slices_Sort_int8_int8.mono _ _)
      | (with_reducible exact LeO.refl _)
      | (with_reducible exact LeO.none _)
      | (with_reducible refine LeO.ite ?_ ?_)
      | (with_reducible refine LeO.bind ?_ (fun _ => ?_))
      | exact ih0 _ _ _
      | exact ih1 _ _ _ _ _ _
      | exact ih2 _ _ _ _ _ _ _ _ _ _ _
      | exact ih3 _ _ _ _ _ _ _ _ _ _ _ _ _ _ _ _ _
      | exact ih4 _ _ _ _ _ _ _ _ _ _ _ _ _ _ _
      | exact impl_ValidGame.mono _ _
      | exact slices_Sort_int8_int8.mono _ _
      | exact LeO.none _
      | refine LeO.ite ?_ ?_
      | refine LeO.bind ?_ (fun _ => ?_)
    · intro y0 y1 y2 y3 y4 y5
      unfold impl_AddGames.l0
      repeat' first
      | (with_reducible exact ih0 _ _ _)
      | (with_reducible exact ih1 _ _ _ _ _ _)
      | (with_reducible exact ih2 _ _ _ _ _ _ _ _ _ _ _)
      | (with_reducible exact ih3 _ _ _ _ _ _ _ _ _ _ _ _ _ _ _ _ _)
      | (with_reducible exact ih4 _ _ _ _ _ _ _ _ _ _ _ _ _ _ _)
      | (with_reducible exact impl_ValidGame.mono _ _)
      | (with_reducible exact slices_Sort_int8_int8.mono _ _)
      | (with_reducible exact LeO.refl _)
      | (with_reducible exact LeO.none _)
      | (with_reducible refine LeO.ite ?_ ?_)
      | (with_reducible refine LeO.bind ?_ (fun _ => ?_))
      | exact ih0 _ _ _
      | exact ih1 _ _ _ _ _ _
      | exact ih2 _ _ _ _ _ _ _ _ _ _ _
      | exact ih3 _ _ _ _ _ _ _ _ _ _ _ _ _ _ _ _ _
      | exact ih4 _ _ _ _ _ _ _ _ _ _ _ _ _ _ _
      | exact impl_ValidGame.mono _ _
      | exact slices_Sort_int8_int8.mono _ _
      | exact LeO.none _
      | refine LeO.ite ?_ ?_
      | refine LeO.bind ?_ (fun _ => ?_)
    · intro y0 y1 y2 y3 y4 y5 y6 y7 y8 y9 y10
      unfold impl_AddGames.l1
      repeat' first
      | (with_reducible exact ih0 _ _ _)
      | (with_reducible exact ih1 _ _ _ _ _ _)
      | (with_reducible exact ih2 _ _ _ _ _ _ _ _ _ _ _)
      | (with_reducible exact ih3 _ _ _ _ _ _ _ _ _ _ _ _ _ _ _ _ _)
      | (with_reducible exact ih4 _ _ _ _ _ _ _ _ _ _ _ _ _ _ _)
      | (with_reducible exact impl_ValidGame.mono _ _)
      | (with_reducible exact slices_Sort_int8_int8.mono _ _)
      | (with_reducible exact LeO.refl _)
      | (with_reducible exact LeO.none _)
      | (with_reducible refine LeO.ite ?_ ?_)
      | (with_reducible refine LeO.bind ?_ (fun _ => ?_))
      | exact ih0 _ _ _
      | exact ih1 _ _ _ _ _ _
      | exact ih2 _ _ _ _ _ _ _ _ _ _ _
      | exact ih3 _ _ _ _ _ _ _ _ _ _ _ _ _ _ _ _ _
      | exact ih4 _ _ _ _ _ _ _ _ _ _ _ _ _ _ _
      | exact impl_ValidGame.mono _ _
      | exact slices_Sort_int8_int8.mono _ _
      | exact LeO.none _
      | refine LeO.ite ?_ ?_
      | refine LeO.bind ?_ (fun _ => ?_)
    · intro y0 y1 y2 y3 y4 y5 y6 y7 y8 y9 y10 y11 y12 y13 y14 y15 y16
      unfold impl_AddGames.l2
      repeat' first
      | (with_reducible exact ih0 _ _ _)
      | (with_reducible exact ih1 _ _ _ _ _ _)
      | (with_reducible exact ih2 _ _ _ _ _ _ _ _ _ _ _)
      | (with_reducible exact ih3 _ _ _ _ _ _ _ _ _ _ _ _ _ _ _ _ _)
      | (with_reducible exact ih4 _ _ _ _ _ _ _ _ _ _ _ _ _ _ _)
      | (with_reducible exact impl_ValidGame.mono _ _)
      | (with_reducible exact slices_Sort_int8_int8.mono _ _)
      | (with_reducible exact LeO.refl _)
      | (with_reducible exact LeO.none _)
      | (with_reducible refine LeO.ite ?_ ?_)
      | (with_reducible refine LeO.bind ?_ (fun _ => ?_))
      | exact ih0 _ _ _
      | exact ih1 _ _ _ _ _ _
      | exact ih2 _ _ _ _ _ _ _ _ _ _ _
      | exact ih3 _ _ _ _ _ _ _ _ _ _ _ _ _ _ _ _ _
      | exact ih4 _ _ _ _ _ _ _ _ _ _ _ _ _ _ _
      | exact impl_ValidGame.mono _ _
      | exact slices_Sort_int8_int8.mono _ _
      | exact LeO.none _
      | refine LeO.ite ?_ ?_
      | refine LeO.bind ?_ (fun _ => ?_)
    · intro y0 y1 y2 y3 y4 y5 y6 y7 y8 y9 y10 y11 y12 y13 y14
      unfold impl_AddGames.l3
      repeat' first
      | (with_reducible exact ih0 _ _ _)
      | (with_reducible exact ih1 _ _ _ _ _ _)
      | (with_reducible exact ih2 _ _ _ _ _ _ _ _ _ _ _)
      | (with_reducible exact ih3 _ _ _ _ _ _ _ _ _ _ _ _ _ _ _ _ _)
      | (with_reducible exact ih4 _ _ _ _ _ _ _ _ _ _ _ _ _ _ _)
      | (with_reducible exact impl_ValidGame.mono _ _)
      | (with_reducible exact slices_Sort_int8_int8.mono _ _)
      | (with_reducible exact LeO.refl _)
      | (with_reducible exact LeO.none _)
      | (with_reducible refine LeO.ite ?_ ?_)
      | (with_reducible refine LeO.bind ?_ (fun _ => ?_))
      | exact ih0 _ _ _
      | exact ih1 _ _ _ _ _ _
      | exact ih2 _ _ _ _ _ _ _ _ _ _ _
      | exact ih3 _ _ _ _ _ _ _ _ _ _ _ _ _ _ _ _ _
      | exact ih4 _ _ _ _ _ _ _ _ _ _ _ _ _ _ _
      | exact impl_ValidGame.mono _ _
      | exact slices_Sort_int8_int8.mono _ _
      | exact LeO.none _
      | refine LeO.ite ?_ ?_
      | refine LeO.bind ?_ (fun _ => ?_)
theorem impl_AddGames.mono : ∀ a0 a1 k, LeO (impl_AddGames.f k a0 a1) (impl_AddGames.f (k + 1) a0 a1) := by
  intro a0 a1 k
  obtain ⟨ih0, ih1, ih2, ih3, ih4⟩ := impl_AddGames.mono_l k
  unfold impl_AddGames.f
  repeat' first
      | (with_reducible exact ih0 _ _ _)
      | (with_reducible exact ih1 _ _ _ _ _ _)
      | (with_reducible exact ih2 _ _ _ _ _ _ _ _ _ _ _)
      | (with_reducible exact ih3 _ _ _ _ _ _ _ _ _ _ _ _ _ _ _ _ _)
      | (with_reducible exact ih4 _ _ _ _ _ _ _ _ _ _ _ _ _ _ _)
      | (with_reducible exact impl_ValidGame.mono _ _)
      | (with_reducible exact slices_Sort_int8_int8.mono _ _)
      | (with_reducible exact LeO.refl _)
      | (with_reducible exact LeO.none _)
      | (with_reducible refine LeO.ite ?_ ?_)
      | (with_reducible refine LeO.bind ?_ (fun _ => ?_))
      | exact ih0 _ _ _
      | exact ih1 _ _ _ _ _ _
      | exact ih2 _ _ _ _ _ _ _ _ _ _ _
      | exact ih3 _ _ _ _ _ _ _ _ _ _ _ _ _ _ _ _ _
      | exact ih4 _ _ _ _ _ _ _ _ _ _ _ _ _ _ _
      | exact impl_ValidGame.mono _ _
      | exact slices_Sort_int8_int8.mono _ _
      | exact LeO.none _
      | refine LeO.ite ?_ ?_
      | refine LeO.bind ?_ (fun _ => ?_)
set_option maxHeartbeats 8000000 in
set_option maxRecDepth 100000 in
theorem impl_AddGames.calls (k : Nat) (A0 : Option Addr) (c0 : Nat) (l0 : List (List Int)) (A1 : Option Addr) (c1 : Nat) (l1 : List (List Int)) (r1 : List (List Int)) (r2 : Int) (w : World) (hr0 : Kd.C (Kd.slice 87 (Kd.int .i8)) w A0 l0.length l0) (hc0 : l0.length ≤ c0) (hr1 : Kd.C (Kd.slice 87 (Kd.int .i8)) w A1 l1.length l1) (hc1 : l1.length ≤ c1) (h : impl_AddGames.f k l0 l1 = some (r1, r2)) :
    Calls Try.prog 33 #[.slice A0 l0.length c0, .slice A1 l1.length c1] w fun e w' => ∃ v0_ : Value, e = .returned (.tuple #[v0_, .int .i64 r2]) ∧ Kd.S (Kd.slice 87 (Kd.int .i8)) 86 w' w.heap.size (fun _ => True) v0_ r1 ∧ Below w.heap.size w w' := by
  have HR0 := Aside0.mk hr0
  have HC0 := Aside0.mk hc0
  clear hr0 hc0
  have HR1 := Aside0.mk hr1
  have HC1 := Aside0.mk hc1
  clear hr1 hc1
  have HB := Aside0.mk (Below.refl w.heap.size w)
  have H : ((impl_ValidGame.f k l0).bind fun t209 => (if t209 = true then ((impl_ValidGame.f k l1).bind fun t210 => (impl_AddGames.j0 k l0 l1 (!t210))) else (impl_AddGames.j0 k l0 l1 true))) = some (r1, r2) := h
  clear h
  have HC3 := Aside0.mk H
  clear H
  go_enter Try.func33, Try.ntmps33
  go_upto_region 1 with (fail)
  go_cut [17] (fun v17 wc => ∃ (kq : Nat) (x17_2 : Bool), v17 = .bool x17_2 ∧ Aside0 (impl_AddGames.j0 kq l0 l1 x17_2 = some (r1, r2)) ∧ Aside0 (kq ≤ k) ∧ Aside0 (Below w.heap.size w wc))
  case first =>
    have H := HC3.out
    clear HC3
    replace H := Option.bind_eq_some_iff.mp H
    obtain ⟨t209, A40, H⟩ := H
    replace H : (if t209 = true then ((impl_ValidGame.f k l1).bind fun t210 => (impl_AddGames.j0 k l0 l1 (!t210))) else (impl_AddGames.j0 k l0 l1 true)) = some (r1, r2) := H
    have A4 := Aside0.mk A40
    clear A40
    by_cases c5 : t209 = true
    · subst c5
      have H1 : ((impl_ValidGame.f k l1).bind fun t210 => (impl_AddGames.j0 k l0 l1 (!t210))) = some (r1, r2) := by rw [if_pos rfl] at H; exact H
      clear H
      have H := H1
      clear H1
      replace H := Option.bind_eq_some_iff.mp H
      obtain ⟨t210, A60, H⟩ := H
      replace H : (impl_AddGames.j0 k l0 l1 (!t210)) = some (r1, r2) := H
      have A6 := Aside0.mk A60
      clear A60
      have H' := Aside0.mk H
      clear H
      go_wp2_with (first | ((with_reducible refine gate_callee (f := 39) rfl ?_); refine goesL_ (some 19) rfl rfl Try.func39 (by kernel_rfl) rfl #[.slice A0 l0.length c0] rfl (by (try simp only [List.map_toArray, List.map_cons, List.map_nil]); first | done | rfl | (simp only [List.length_drop, List.length_take]; rfl)) ?_; (with_reducible refine (impl_ValidGame.calls k _ _ l0 true _ ?side1 ?side2 A4.out).mono ?_); (case side1 => repeat (first | exact (Kd.C_below HR0.out HB.out) | (with_reducible refine Kd.C_alloc ?_ _) | (with_reducible refine Kd.C_drewN ?_ _) | (with_reducible refine Kd.C_drew ?_))); (case side2 => exact HC0.out); rintro e w' ⟨rfl, ⟨nd, rfl⟩⟩; refine ⟨_, rfl, ?_⟩) | (go_at_call 39; (with_reducible refine (impl_ValidGame.calls k _ _ l1 t210 _ ?side1 ?side2 A6.out).mono ?_); (case side1 => repeat (first | exact (Kd.C_below HR1.out (by repeat (first | (with_reducible first | exact HB.out | apply below_alloc | apply pw_below_drewN | apply below_drew1) | exact HB.out))) | (with_reducible refine Kd.C_alloc ?_ _) | (with_reducible refine Kd.C_drewN ?_ _) | (with_reducible refine Kd.C_drew ?_))); (case side2 => exact HC1.out); rintro e w' ⟨rfl, ⟨nd, rfl⟩⟩))
      go_meet
      case rel => exact ⟨_, (!t210), (by first | rfl | (simp; done) | (simp [*]; done)), H', ⟨by first | omega | exact Nat.le_refl _⟩, ⟨by repeat (first | (with_reducible first | exact HB.out | apply below_alloc | apply pw_below_drewN | apply below_drew1) | exact HB.out)⟩⟩
    · replace c5 := Bool.eq_false_iff.mpr c5
      subst c5
      have H1 : (impl_AddGames.j0 k l0 l1 true) = some (r1, r2) := by rw [if_neg (show ¬ (false = true) by decide)] at H; exact H
      clear H
      have H := H1
      clear H1
      have H' := Aside0.mk H
      clear H
      go_wp2_with (first | ((with_reducible refine gate_callee (f := 39) rfl ?_); refine goesL_ (some 19) rfl rfl Try.func39 (by kernel_rfl) rfl #[.slice A0 l0.length c0] rfl (by (try simp only [List.map_toArray, List.map_cons, List.map_nil]); first | done | rfl | (simp only [List.length_drop, List.length_take]; rfl)) ?_; (with_reducible refine (impl_ValidGame.calls k _ _ l0 false _ ?side1 ?side2 A4.out).mono ?_); (case side1 => repeat (first | exact (Kd.C_below HR0.out HB.out) | (with_reducible refine Kd.C_alloc ?_ _) | (with_reducible refine Kd.C_drewN ?_ _) | (with_reducible refine Kd.C_drew ?_))); (case side2 => exact HC0.out); rintro e w' ⟨rfl, ⟨nd, rfl⟩⟩; refine ⟨_, rfl, ?_⟩))
      go_meet
      case rel => exact ⟨_, (true), (by first | rfl | (simp; done) | (simp [*]; done)), H', ⟨by first | omega | exact Nat.le_refl _⟩, ⟨by repeat (first | (with_reducible first | exact HB.out | apply below_alloc | apply pw_below_drewN | apply below_drew1) | exact HB.out)⟩⟩
  case rest =>
    clear HC3
    try clear c1
    try clear p2
    try clear c3
    try clear c5
    obtain ⟨kq, x17_2, rfl, HA, HJ2, HB⟩ := hcut
    cases kq with
    | zero => exact absurd HA.out (by simp [impl_AddGames.j0])
    | succ kj2 =>
      have H := HA.out
      clear HA
      simp only [impl_AddGames.j0] at H
      by_cases c7 : x17_2 = true
      · subst c7
        have H1 : (some (([] : List (List Int)), 1)) = some (r1, r2) := by rw [if_pos rfl] at H; exact H
        clear H
        have H := H1
        clear H1
        simp only [Option.some.injEq, Prod.mk.injEq] at H
        obtain ⟨rfl, rfl⟩ := H
        go_wp2
        go_ret2
        exact ⟨_, by first | rfl | (simp [errW_none, errW_some] <;> rfl) | (simp [*, errW_none, errW_some] <;> rfl), by first | exact Kd.S_nil _ _ _ _ _ | exact Kd.N_nil _ _ _ _ _ | exact Kd.V_nil _ _ _ _ _ | exact Kd.Q_nil _ _ _ _ _ | exact Kd.R_nil _ _ _ _ _, by repeat (first | (with_reducible first | exact HB.out | apply below_alloc | apply pw_below_drewN | apply below_drew1) | exact HB.out)⟩
      · replace c7 := Bool.eq_false_iff.mpr c7
        subst c7
        have H1 : (if (wrap64 ((l0.length : Int) * (l1.length : Int))) > 60 then (some (([] : List (List Int)), 3)) else (impl_AddGames.l0 kj2 l0 (([] : List (List Int))) (IntKind.i8.wrap ((l0.length : Int))) l1 (l1.length : Int) 0)) = some (r1, r2) := by rw [if_neg (show ¬ (false = true) by decide)] at H; exact H
        clear H
        have H := H1
        clear H1
        by_cases c8 : (wrap64 ((l0.length : Int) * (l1.length : Int))) > 60
        · rw [if_pos c8] at H
          have c8b0 : decide (60 < (wrap64 ((l0.length : Int) * (l1.length : Int)))) = true := decide_eq_true c8
          clear c8
          simp only [Option.some.injEq, Prod.mk.injEq] at H
          obtain ⟨rfl, rfl⟩ := H
          go_wp2
          go_ret2
          exact ⟨_, by first | rfl | (simp [errW_none, errW_some] <;> rfl) | (simp [*, errW_none, errW_some] <;> rfl), by first | exact Kd.S_nil _ _ _ _ _ | exact Kd.N_nil _ _ _ _ _ | exact Kd.V_nil _ _ _ _ _ | exact Kd.Q_nil _ _ _ _ _ | exact Kd.R_nil _ _ _ _ _, by repeat (first | (with_reducible first | exact HB.out | apply below_alloc | apply pw_below_drewN | apply below_drew1) | exact HB.out)⟩
        · rw [if_neg c8] at H
          have c8b0 : decide (60 < (wrap64 ((l0.length : Int) * (l1.length : Int)))) = false := decide_eq_false c8
          clear c8
          obtain ⟨y211, hy211⟩ : ∃ y_ : List (List Int), y_ = (([] : List (List Int))) := ⟨_, rfl⟩
          replace H : (impl_AddGames.l0 kj2 l0 y211 (IntKind.i8.wrap ((l0.length : Int))) l1 (l1.length : Int) 0) = some (r1, r2) := by first | (rw [hy211]; with_reducible exact H) | (have H2_ := (Option.bind_some _ _).symm.trans H; rw [hy211]; with_reducible exact H2_) | (have H2_ := (Option.bind_some _ _).symm.trans H; with_reducible exact H2_) | with_reducible exact H | (rw [hy211]; exact H) | exact H
          have Ny211 := Aside0.mk hy211
          clear hy211
          have H' := Aside0.mk H
          clear H
          go_wp2_with (first | ((with_reducible refine gate_dst (N := 33) rfl ?_); refine Kd.S_lit (Kd.slice 87 (Kd.int .i8)) _ 86 ?hg (N := 33) ?hd (xs := ([] : List (List Int))) (inner := []) (ok := fun _ => True) (okp := fun _ => True) ?hr ?hp (fun _ hk => hk) trivial (Below.refl _ _) (Nat.le_refl _) (by simp) ?_; (case hd => rfl); (case hg => rfl); (case hr => first | (go_simp; done) | (go_simp; rfl)); (case hp => exact (Reps.none _ _)); intro v212 w9 ho10 hb hg_ hnew_; clear hg_ hnew_; (first | rw [← Ny211.out] at ho10 | (simp only [Int.reduceToNat] at ho10; rw [← Ny211.out] at ho10)); have n0_ := Aside0.mk (Kd.S_lower ho10 (below_size (by repeat (first | (with_reducible first | exact HB.out | apply below_alloc | apply pw_below_drewN | apply below_drew1) | exact HB.out)))); have n1_ := Aside0.mk (below_step (by repeat (first | (with_reducible first | exact HB.out | apply below_alloc | apply pw_below_drewN | apply below_drew1) | exact HB.out)) hb); clear HB; have HO213 := n0_; have HB := n1_; clear n0_ n1_; clear hb ho10))
          go_loopg [6, 39] kj2 (fun kq v6 v39 w' => ∃ (x6_2 : List (List Int)) (x39_2 : Int), v39 = .int .i64 x39_2 ∧ Aside0 (impl_AddGames.l0 kq l0 x6_2 (IntKind.i8.wrap ((l0.length : Int))) l1 (l1.length : Int) x39_2 = some (r1, r2)) ∧ Aside0 (kq ≤ kj2) ∧ Aside0 (Kd.S (Kd.slice 87 (Kd.int .i8)) 86 w' w.heap.size (fun _ => True) v6 x6_2) ∧ Aside0 (Below w.heap.size w w'))
          case atStart => exact ⟨(y211), (0), (by first | rfl | (simp; done) | (simp [*]; done)), H', ⟨Nat.le_refl _⟩, ⟨by (with_reducible repeat (first | apply Kd.S_alloc | apply Kd.S_drewN | apply Kd.S_drew)); exact HO213.out⟩, ⟨by repeat (first | (with_reducible first | exact HB.out | apply below_alloc | apply pw_below_drewN | apply below_drew1) | exact HB.out)⟩⟩
          case round =>
            clear H'
            try clear c1
            try clear p2
            try clear c3
            try clear c5
            try clear p6
            try clear c7
            try clear c8
            try clear c8b0
            try clear p2
            obtain ⟨x6_2, x39_2, rfl, HA, HK2, HO_6, HB⟩ := hrel
            cases gk with
            | zero => exact absurd HA.out (by simp [impl_AddGames.l0])
            | succ k2 =>
              have H := HA.out
              clear HA
              simp only [impl_AddGames.l0] at H
              by_cases c11 : x39_2 < (l1.length : Int)
              · rw [if_pos c11] at H
                have c11b0 : decide (x39_2 < (l1.length : Int)) = true := decide_eq_true c11
                clear c11
                by_cases c12 : 0 ≤ x39_2
                · rw [if_pos c12] at H
                  have c12b0 : decide (0 ≤ x39_2) = true := decide_eq_true c12
                  clear c12
                  by_cases c13 : x39_2 < (l1.length : Int)
                  · rw [if_pos c13] at H
                    have c13b0 : decide (x39_2 < (l1.length : Int)) = true := decide_eq_true c13
                    clear c13
                    have H' := Aside0.mk H
                    clear H
                    have p214 : 0 ≤ (x39_2 : Int) := of_decide_eq_true (by first | (with_reducible assumption) | assumption)
                    have q214 : x39_2 < (l1.length : Int) := of_decide_eq_true (by first | (with_reducible assumption) | assumption)
                    obtain ⟨ad214, A214_0, c214_0, e214, hx214_0, hl214_0, hi214_0⟩ := at_L1 HR1.out x39_2 p214 q214
                    cases e214
                    replace hx214_0 := (HB.out.cell (World.block_lt_of_cell? w _ hx214_0)).trans hx214_0
                    have HR214_0 := Aside0.mk hi214_0
                    have HC214_0 := Aside0.mk hl214_0
                    clear hi214_0 hl214_0
                    replace p214 := eq_true p214
                    replace q214 := eq_true q214
                    go_wp2
                    go_loopg [6, 46] k2 (fun kq v6 v46 w' => ∃ (x6_3 : List (List Int)) (x46_3 : Int), v46 = .int .i64 x46_3 ∧ Aside0 (impl_AddGames.l1 kq l0 x6_3 (IntKind.i8.wrap ((l0.length : Int))) x39_2 (rd_L1 l1 x39_2) l1 (l1.length : Int) x39_2 l0 (l0.length : Int) x46_3 = some (r1, r2)) ∧ Aside0 (kq ≤ k2) ∧ Aside0 (Kd.S (Kd.slice 87 (Kd.int .i8)) 86 w' w.heap.size (fun _ => True) v6 x6_3) ∧ Aside0 (Below w.heap.size w w'))
                    case atStart => exact ⟨(x6_2), (0), (by first | rfl | (simp; done) | (simp [*]; done)), H', ⟨Nat.le_refl _⟩, ⟨by (with_reducible repeat (first | apply Kd.S_alloc | apply Kd.S_drewN | apply Kd.S_drew)); exact HO_6.out⟩, ⟨by repeat (first | (with_reducible first | exact HB.out | apply below_alloc | apply pw_below_drewN | apply below_drew1) | exact HB.out)⟩⟩
                    case round =>
                      clear H'
                      try clear c1
                      try clear c2
                      try clear p2
                      try clear q2
                      try clear hx2
                      try clear c3
                      try clear c5
                      try clear p6
                      try clear c7
                      try clear c8
                      try clear c8b0
                      try clear c11
                      try clear c11b0
                      try clear c12
                      try clear c12b0
                      try clear c13
                      try clear c13b0
                      try clear hx214_0
                      try clear p2
                      try clear p214
                      try clear p6
                      try clear q214
                      obtain ⟨x6_3, x46_3, rfl, HA, HK3, HO_6, HB⟩ := hrel
                      cases gk with
                      | zero => exact absurd HA.out (by simp [impl_AddGames.l1])
                      | succ k3 =>
                        have H := HA.out
                        clear HA
                        simp only [impl_AddGames.l1] at H
                        by_cases c14 : x46_3 < (l0.length : Int)
                        · rw [if_pos c14] at H
                          have c14b0 : decide (x46_3 < (l0.length : Int)) = true := decide_eq_true c14
                          clear c14
                          by_cases c15 : 0 ≤ x46_3
                          · rw [if_pos c15] at H
                            have c15b0 : decide (0 ≤ x46_3) = true := decide_eq_true c15
                            clear c15
                            by_cases c16 : x46_3 < (l0.length : Int)
                            · rw [if_pos c16] at H
                              have c16b0 : decide (x46_3 < (l0.length : Int)) = true := decide_eq_true c16
                              clear c16
                              obtain ⟨y216, hy216⟩ : ∃ y_ : List Int, y_ = (([] : List Int)) := ⟨_, rfl⟩
                              replace H : (impl_AddGames.l2 k3 l0 x6_3 (IntKind.i8.wrap ((l0.length : Int))) x39_2 (rd_L1 l1 x39_2) x46_3 (rd_L1 l0 x46_3) y216 l1 (l1.length : Int) x39_2 l0 (l0.length : Int) x46_3 (rd_L1 l1 x39_2) ((rd_L1 l1 x39_2).length : Int) 0) = some (r1, r2) := by first | (rw [hy216]; with_reducible exact H) | (have H2_ := (Option.bind_some _ _).symm.trans H; rw [hy216]; with_reducible exact H2_) | (have H2_ := (Option.bind_some _ _).symm.trans H; with_reducible exact H2_) | with_reducible exact H | (rw [hy216]; exact H) | exact H
                              have Ny216 := Aside0.mk hy216
                              clear hy216
                              have H' := Aside0.mk H
                              clear H
                              have p215 : 0 ≤ (x46_3 : Int) := of_decide_eq_true (by first | (with_reducible assumption) | assumption)
                              have q215 : x46_3 < (l0.length : Int) := of_decide_eq_true (by first | (with_reducible assumption) | assumption)
                              obtain ⟨ad215, A215_0, c215_0, e215, hx215_0, hl215_0, hi215_0⟩ := at_L1 HR0.out x46_3 p215 q215
                              cases e215
                              replace hx215_0 := (HB.out.cell (World.block_lt_of_cell? w _ hx215_0)).trans hx215_0
                              have HR215_0 := Aside0.mk hi215_0
                              have HC215_0 := Aside0.mk hl215_0
                              clear hi215_0 hl215_0
                              replace p215 := eq_true p215
                              replace q215 := eq_true q215
                              go_wp2_with (first | ((with_reducible refine gate_dst (N := 51) rfl ?_); refine Kd.R_lit (Kd.int .i8) _ 87 ?hg (N := 51) ?hd (xs := ([] : List Int)) (inner := []) (ok := fun _ => True) (okp := fun _ => True) ?hr ?hp (fun _ hk => hk) trivial (Below.refl _ _) (Nat.le_refl _) (by simp) ?_; (case hd => rfl); (case hg => rfl); (case hr => first | (go_simp; done) | (go_simp; rfl)); (case hp => exact (Reps.none _ _)); intro v217 w17 ho18 hb hg_ hnew_; clear hg_ hnew_; (first | rw [← Ny216.out] at ho18 | (simp only [Int.reduceToNat] at ho18; rw [← Ny216.out] at ho18)); have n0_ := Aside0.mk (Kd.S_elder' (by (with_reducible repeat (first | apply Kd.S_alloc | apply Kd.S_drewN | apply Kd.S_drew)); exact HO_6.out) (Kd.R_base ho18) hb); have n1_ := Aside0.mk (Kd.R_lower ho18 (below_size (by repeat (first | (with_reducible first | exact HB.out | apply below_alloc | apply pw_below_drewN | apply below_drew1) | exact HB.out)))); have n2_ := Aside0.mk (below_step (by repeat (first | (with_reducible first | exact HB.out | apply below_alloc | apply pw_below_drewN | apply below_drew1) | exact HB.out)) hb); clear HO_6; clear HB; have HO_6 := n0_; have HO218 := n1_; have HB := n2_; clear n0_ n1_ n2_; clear hb ho18))
                              go_loopg [12, 54] k3 (fun kq v12 v54 w' => ∃ (x12_4 : List Int) (x54_4 : Int), v54 = .int .i64 x54_4 ∧ Aside0 (impl_AddGames.l2 kq l0 x6_3 (IntKind.i8.wrap ((l0.length : Int))) x39_2 (rd_L1 l1 x39_2) x46_3 (rd_L1 l0 x46_3) x12_4 l1 (l1.length : Int) x39_2 l0 (l0.length : Int) x46_3 (rd_L1 l1 x39_2) ((rd_L1 l1 x39_2).length : Int) x54_4 = some (r1, r2)) ∧ Aside0 (kq ≤ k3) ∧ Aside0 (Kd.S (Kd.slice 87 (Kd.int .i8)) 86 w' w.heap.size (fun k_ => some k_ ≠ (v12 : Value).ownBlock) u6 x6_3) ∧ Aside0 (Kd.R (Kd.int .i8) 87 w' w.heap.size (fun _ => True) v12 x12_4) ∧ Aside0 (Below w.heap.size w w'))
                              case atStart => exact ⟨(y216), (0), (by first | rfl | (simp; done) | (simp [*]; done)), H', ⟨Nat.le_refl _⟩, ⟨by (with_reducible repeat (first | apply Kd.S_alloc | apply Kd.S_drewN | apply Kd.S_drew)); exact Kd.S_mono HO_6.out (fun _ hk => hk.2)⟩, ⟨by (with_reducible repeat (first | apply Kd.R_alloc | apply Kd.R_drewN | apply Kd.R_drew)); exact HO218.out⟩, ⟨by repeat (first | (with_reducible first | exact HB.out | apply below_alloc | apply pw_below_drewN | apply below_drew1) | exact HB.out)⟩⟩
                              case round =>
                                clear H'
                                try clear c1
                                try clear c2
                                try clear p2
                                try clear q2
                                try clear hx2
                                try clear c3
                                try clear c5
                                try clear p6
                                try clear c7
                                try clear c8
                                try clear c8b0
                                try clear c11
                                try clear c11b0
                                try clear c12
                                try clear c12b0
                                try clear c13
                                try clear c13b0
                                try clear c14
                                try clear c14b0
                                try clear c15
                                try clear c15b0
                                try clear c16
                                try clear c16b0
                                try clear hx214_0
                                try clear hx215_0
                                try clear p2
                                try clear p214
                                try clear p215
                                try clear p6
                                try clear q2
                                try clear q214
                                try clear q215
                                obtain ⟨x12_4, x54_4, rfl, HA, HK4, HO_6, HO_12, HB⟩ := hrel
                                cases gk with
                                | zero => exact absurd HA.out (by simp [impl_AddGames.l2])
                                | succ k4 =>
                                  have H := HA.out
                                  clear HA
                                  simp only [impl_AddGames.l2] at H
                                  by_cases c19 : x54_4 < ((rd_L1 l1 x39_2).length : Int)
                                  · rw [if_pos c19] at H
                                    have c19b0 : decide (x54_4 < ((rd_L1 l1 x39_2).length : Int)) = true := decide_eq_true c19
                                    clear c19
                                    by_cases c20 : 0 ≤ x54_4
                                    · rw [if_pos c20] at H
                                      have c20b0 : decide (0 ≤ x54_4) = true := decide_eq_true c20
                                      clear c20
                                      by_cases c21 : x54_4 < ((rd_L1 l1 x39_2).length : Int)
                                      · rw [if_pos c21] at H
                                        have c21b0 : decide (x54_4 < ((rd_L1 l1 x39_2).length : Int)) = true := decide_eq_true c21
                                        clear c21
                                        by_cases c22 : x12_4.length < 140737488355328
                                        · rw [if_pos c22] at H
                                          have LMc22 := Aside0.mk c22
                                          clear c22
                                          obtain ⟨y220, hy220⟩ : ∃ y_ : List Int, y_ = (x12_4 ++ [IntKind.i8.wrap ((IntKind.i8.wrap (x46_3)) + (IntKind.i8.wrap ((IntKind.i8.wrap ((l0.length : Int))) * (rd (rd_L1 l1 x39_2) x54_4))))]) := ⟨_, rfl⟩
                                          replace H : (impl_AddGames.l2 k4 l0 x6_3 (IntKind.i8.wrap ((l0.length : Int))) x39_2 (rd_L1 l1 x39_2) x46_3 (rd_L1 l0 x46_3) y220 l1 (l1.length : Int) x39_2 l0 (l0.length : Int) x46_3 (rd_L1 l1 x39_2) ((rd_L1 l1 x39_2).length : Int) (wrap64 (x54_4 + 1))) = some (r1, r2) := by first | (rw [hy220]; with_reducible exact H) | (have H2_ := (Option.bind_some _ _).symm.trans H; rw [hy220]; with_reducible exact H2_) | (have H2_ := (Option.bind_some _ _).symm.trans H; with_reducible exact H2_) | with_reducible exact H | (rw [hy220]; exact H) | exact H
                                          have Ny220 := Aside0.mk hy220
                                          clear hy220
                                          have H' := Aside0.mk H
                                          clear H
                                          have p219 : 0 ≤ (x54_4 : Int) := of_decide_eq_true (by first | (with_reducible assumption) | assumption)
                                          have q219 : x54_4 < ((rd_L1 l1 x39_2).length : Int) := of_decide_eq_true (by first | (with_reducible assumption) | assumption)
                                          obtain ⟨ad219, e219, hx219_0⟩ := Kd.at_int HR214_0.out x54_4 p219 q219
                                          cases e219
                                          replace hx219_0 := (HB.out.cell (World.block_lt_of_cell? w _ hx219_0)).trans hx219_0
                                          replace p219 := eq_true p219
                                          replace q219 := eq_true q219
                                          go_wp2_with (first | ((with_reducible refine gate_builtin (b := .append) (xs := #[.tmp 58, .tmp 65]) rfl ?_); at_builtin; refine Kd.R_append (Kd.int .i8) (w0 := w) w.heap.size rfl (.tmp 58) (.tmp 65) 86 87 (.int .i8 0) 1 rfl Try.underlying86 info87 rfl (by decide) (by omega) u12 x12_4 (IntKind.i8.wrap ((IntKind.i8.wrap (x46_3)) + (IntKind.i8.wrap ((IntKind.i8.wrap ((l0.length : Int))) * (rd (rd_L1 l1 x39_2) x54_4))))) [.int .i8 (IntKind.i8.wrap ((IntKind.i8.wrap (x46_3)) + (IntKind.i8.wrap ((IntKind.i8.wrap ((l0.length : Int))) * (rd (rd_L1 l1 x39_2) x54_4)))))] (fun _ => True) (fun _ => False) rfl rfl ?aP (fun _ hk => hk.elim) ?aF ?aO ?aB ?aS ?aL ?_; (case aP => exact rfl); (case aB => exact (by repeat (first | (with_reducible first | exact HB.out | apply below_alloc | apply pw_below_drewN | apply below_drew1) | exact HB.out))); (case aF => exact (fun _ _ => trivial)); (case aO => exact (by (with_reducible repeat (first | apply Kd.R_alloc | apply Kd.R_drewN | apply Kd.R_drew)); exact HO_12.out)); (case aS => exact (below_size (by repeat (first | (with_reducible first | exact HB.out | apply below_alloc | apply pw_below_drewN | apply below_drew1) | exact HB.out)))); (case aL => have := LMc22.out; omega); intro v221 w23 ho hb hg hat; rw [← Ny220.out] at ho; have n0_ := Aside0.mk (Kd.S_after (ok := (fun _ => True)) (by (with_reducible repeat (first | apply Kd.S_alloc | apply Kd.S_drewN | apply Kd.S_drew)); exact Kd.S_mono HO_6.out (fun _ hk => ⟨trivial, hk⟩)) hg hat); have n1_ := Aside0.mk (hb); have n2_ := Aside0.mk (ho); clear HO_6; clear HB; clear HO_12; have HO_6 := n0_; have HB := n1_; have HO222 := n2_; clear n0_ n1_ n2_; clear ho hb hg hat))
                                          go_roundg k4
                                          case measure => have := HJ2.out; have := HK2.out; have := HK3.out; have := HK4.out; omega
                                          case rel => exact ⟨(y220), (wrap64 (x54_4 + 1)), (by first | rfl | (simp; done) | (simp [*]; done)), H', ⟨by have := HJ2.out; have := HK2.out; have := HK3.out; have := HK4.out; omega⟩, ⟨by (with_reducible repeat (first | apply Kd.S_alloc | apply Kd.S_drewN | apply Kd.S_drew)); exact Kd.S_mono HO_6.out (fun _ hk => hk.2)⟩, ⟨by (with_reducible repeat (first | apply Kd.R_alloc | apply Kd.R_drewN | apply Kd.R_drew)); exact HO222.out⟩, ⟨by repeat (first | (with_reducible first | exact HB.out | apply below_alloc | apply pw_below_drewN | apply below_drew1) | exact HB.out)⟩⟩
                                        · rw [if_neg c22] at H
                                          exact absurd H (by simp)
                                      · rw [if_neg c21] at H
                                        exact absurd H (by simp)
                                    · rw [if_neg c20] at H
                                      exact absurd H (by simp)
                                  · rw [if_neg c19] at H
                                    have c19b0 : decide (x54_4 < ((rd_L1 l1 x39_2).length : Int)) = false := decide_eq_false c19
                                    clear c19
                                    have H' := Aside0.mk H
                                    clear H
                                    go_wp2
                                    go_loopg [12, 70] k4 (fun kq v12 v70 w' => ∃ (x12_5 : List Int) (x70_5 : Int), v70 = .int .i64 x70_5 ∧ Aside0 (impl_AddGames.l3 kq l0 x6_3 (IntKind.i8.wrap ((l0.length : Int))) x39_2 (rd_L1 l1 x39_2) x12_5 l1 (l1.length : Int) x39_2 l0 (l0.length : Int) x46_3 (rd_L1 l0 x46_3) ((rd_L1 l0 x46_3).length : Int) x70_5 = some (r1, r2)) ∧ Aside0 (kq ≤ k4) ∧ Aside0 (Kd.S (Kd.slice 87 (Kd.int .i8)) 86 w' w.heap.size (fun k_ => some k_ ≠ (v12 : Value).ownBlock) u6 x6_3) ∧ Aside0 (Kd.R (Kd.int .i8) 87 w' w.heap.size (fun _ => True) v12 x12_5) ∧ Aside0 (Below w.heap.size w w'))
                                    case atStart => exact ⟨(x12_4), (0), (by first | rfl | (simp; done) | (simp [*]; done)), H', ⟨Nat.le_refl _⟩, ⟨by (with_reducible repeat (first | apply Kd.S_alloc | apply Kd.S_drewN | apply Kd.S_drew)); exact HO_6.out⟩, ⟨by (with_reducible repeat (first | apply Kd.R_alloc | apply Kd.R_drewN | apply Kd.R_drew)); exact HO_12.out⟩, ⟨by repeat (first | (with_reducible first | exact HB.out | apply below_alloc | apply pw_below_drewN | apply below_drew1) | exact HB.out)⟩⟩
                                    case round =>
                                      clear H'
                                      try clear c1
                                      try clear c2
                                      try clear p2
                                      try clear q2
                                      try clear hx2
                                      try clear c3
                                      try clear c5
                                      try clear p6
                                      try clear c7
                                      try clear c8
                                      try clear c8b0
                                      try clear c11
                                      try clear c11b0
                                      try clear c12
                                      try clear c12b0
                                      try clear c13
                                      try clear c13b0
                                      try clear c14
                                      try clear c14b0
                                      try clear c15
                                      try clear c15b0
                                      try clear c16
                                      try clear c16b0
                                      try clear c19
                                      try clear c19b0
                                      try clear c20
                                      try clear c20b0
                                      try clear c21
                                      try clear c21b0
                                      try clear p21
                                      try clear q21
                                      try clear hx21
                                      try clear c22
                                      try clear hx214_0
                                      try clear hx215_0
                                      try clear hx219_0
                                      try clear p2
                                      try clear p214
                                      try clear p215
                                      try clear p219
                                      try clear p6
                                      try clear q2
                                      try clear q214
                                      try clear q215
                                      try clear q219
                                      obtain ⟨x12_5, x70_5, rfl, HA, HK5, HO_6, HO_12, HB⟩ := hrel
                                      cases gk with
                                      | zero => exact absurd HA.out (by simp [impl_AddGames.l3])
                                      | succ k5 =>
                                        have H := HA.out
                                        clear HA
                                        simp only [impl_AddGames.l3] at H
                                        by_cases c24 : x70_5 < ((rd_L1 l0 x46_3).length : Int)
                                        · rw [if_pos c24] at H
                                          have c24b0 : decide (x70_5 < ((rd_L1 l0 x46_3).length : Int)) = true := decide_eq_true c24
                                          clear c24
                                          by_cases c25 : 0 ≤ x70_5
                                          · rw [if_pos c25] at H
                                            have c25b0 : decide (0 ≤ x70_5) = true := decide_eq_true c25
                                            clear c25
                                            by_cases c26 : x70_5 < ((rd_L1 l0 x46_3).length : Int)
                                            · rw [if_pos c26] at H
                                              have c26b0 : decide (x70_5 < ((rd_L1 l0 x46_3).length : Int)) = true := decide_eq_true c26
                                              clear c26
                                              by_cases c27 : x12_5.length < 140737488355328
                                              · rw [if_pos c27] at H
                                                have LMc27 := Aside0.mk c27
                                                clear c27
                                                obtain ⟨y224, hy224⟩ : ∃ y_ : List Int, y_ = (x12_5 ++ [IntKind.i8.wrap ((rd (rd_L1 l0 x46_3) x70_5) + (IntKind.i8.wrap ((IntKind.i8.wrap ((l0.length : Int))) * (IntKind.i8.wrap (x39_2)))))]) := ⟨_, rfl⟩
                                                replace H : (impl_AddGames.l3 k5 l0 x6_3 (IntKind.i8.wrap ((l0.length : Int))) x39_2 (rd_L1 l1 x39_2) y224 l1 (l1.length : Int) x39_2 l0 (l0.length : Int) x46_3 (rd_L1 l0 x46_3) ((rd_L1 l0 x46_3).length : Int) (wrap64 (x70_5 + 1))) = some (r1, r2) := by first | (rw [hy224]; with_reducible exact H) | (have H2_ := (Option.bind_some _ _).symm.trans H; rw [hy224]; with_reducible exact H2_) | (have H2_ := (Option.bind_some _ _).symm.trans H; with_reducible exact H2_) | with_reducible exact H | (rw [hy224]; exact H) | exact H
                                                have Ny224 := Aside0.mk hy224
                                                clear hy224
                                                have H' := Aside0.mk H
                                                clear H
                                                have p223 : 0 ≤ (x70_5 : Int) := of_decide_eq_true (by first | (with_reducible assumption) | assumption)
                                                have q223 : x70_5 < ((rd_L1 l0 x46_3).length : Int) := of_decide_eq_true (by first | (with_reducible assumption) | assumption)
                                                obtain ⟨ad223, e223, hx223_0⟩ := Kd.at_int HR215_0.out x70_5 p223 q223
                                                cases e223
                                                replace hx223_0 := (HB.out.cell (World.block_lt_of_cell? w _ hx223_0)).trans hx223_0
                                                replace p223 := eq_true p223
                                                replace q223 := eq_true q223
                                                go_wp2_with (first | ((with_reducible refine gate_builtin (b := .append) (xs := #[.tmp 74, .tmp 81]) rfl ?_); at_builtin; refine Kd.R_append (Kd.int .i8) (w0 := w) w.heap.size rfl (.tmp 74) (.tmp 81) 86 87 (.int .i8 0) 1 rfl Try.underlying86 info87 rfl (by decide) (by omega) u12 x12_5 (IntKind.i8.wrap ((rd (rd_L1 l0 x46_3) x70_5) + (IntKind.i8.wrap ((IntKind.i8.wrap ((l0.length : Int))) * (IntKind.i8.wrap (x39_2)))))) [.int .i8 (IntKind.i8.wrap ((rd (rd_L1 l0 x46_3) x70_5) + (IntKind.i8.wrap ((IntKind.i8.wrap ((l0.length : Int))) * (IntKind.i8.wrap (x39_2))))))] (fun _ => True) (fun _ => False) rfl rfl ?aP (fun _ hk => hk.elim) ?aF ?aO ?aB ?aS ?aL ?_; (case aP => exact rfl); (case aB => exact (by repeat (first | (with_reducible first | exact HB.out | apply below_alloc | apply pw_below_drewN | apply below_drew1) | exact HB.out))); (case aF => exact (fun _ _ => trivial)); (case aO => exact (by (with_reducible repeat (first | apply Kd.R_alloc | apply Kd.R_drewN | apply Kd.R_drew)); exact HO_12.out)); (case aS => exact (below_size (by repeat (first | (with_reducible first | exact HB.out | apply below_alloc | apply pw_below_drewN | apply below_drew1) | exact HB.out)))); (case aL => have := LMc27.out; omega); intro v225 w28 ho hb hg hat; rw [← Ny224.out] at ho; have n0_ := Aside0.mk (Kd.S_after (ok := (fun _ => True)) (by (with_reducible repeat (first | apply Kd.S_alloc | apply Kd.S_drewN | apply Kd.S_drew)); exact Kd.S_mono HO_6.out (fun _ hk => ⟨trivial, hk⟩)) hg hat); have n1_ := Aside0.mk (hb); have n2_ := Aside0.mk (ho); clear HO_6; clear HB; clear HO_12; have HO_6 := n0_; have HB := n1_; have HO226 := n2_; clear n0_ n1_ n2_; clear ho hb hg hat))
                                                go_roundg k5
                                                case measure => have := HJ2.out; have := HK2.out; have := HK3.out; have := HK4.out; have := HK5.out; omega
                                                case rel => exact ⟨(y224), (wrap64 (x70_5 + 1)), (by first | rfl | (simp; done) | (simp [*]; done)), H', ⟨by have := HJ2.out; have := HK2.out; have := HK3.out; have := HK4.out; have := HK5.out; omega⟩, ⟨by (with_reducible repeat (first | apply Kd.S_alloc | apply Kd.S_drewN | apply Kd.S_drew)); exact Kd.S_mono HO_6.out (fun _ hk => hk.2)⟩, ⟨by (with_reducible repeat (first | apply Kd.R_alloc | apply Kd.R_drewN | apply Kd.R_drew)); exact HO226.out⟩, ⟨by repeat (first | (with_reducible first | exact HB.out | apply below_alloc | apply pw_below_drewN | apply below_drew1) | exact HB.out)⟩⟩
                                              · rw [if_neg c27] at H
                                                exact absurd H (by simp)
                                            · rw [if_neg c26] at H
                                              exact absurd H (by simp)
                                          · rw [if_neg c25] at H
                                            exact absurd H (by simp)
                                        · rw [if_neg c24] at H
                                          have c24b0 : decide (x70_5 < ((rd_L1 l0 x46_3).length : Int)) = false := decide_eq_false c24
                                          clear c24
                                          replace H := Option.bind_eq_some_iff.mp H
                                          obtain ⟨t227, A290, H⟩ := H
                                          replace H : (if x6_3.length < 5864062014805 then (impl_AddGames.l1 k5 l0 (x6_3 ++ [t227]) (IntKind.i8.wrap ((l0.length : Int))) x39_2 (rd_L1 l1 x39_2) l1 (l1.length : Int) x39_2 l0 (l0.length : Int) (wrap64 (x46_3 + 1))) else (none)) = some (r1, r2) := H
                                          have A29 := Aside0.mk A290
                                          clear A290
                                          by_cases c30 : x6_3.length < 5864062014805
                                          · rw [if_pos c30] at H
                                            have LMc30 := Aside0.mk c30
                                            clear c30
                                            obtain ⟨y228, hy228⟩ : ∃ y_ : List (List Int), y_ = (x6_3 ++ [t227]) := ⟨_, rfl⟩
                                            replace H : (impl_AddGames.l1 k5 l0 y228 (IntKind.i8.wrap ((l0.length : Int))) x39_2 (rd_L1 l1 x39_2) l1 (l1.length : Int) x39_2 l0 (l0.length : Int) (wrap64 (x46_3 + 1))) = some (r1, r2) := by first | (rw [hy228]; with_reducible exact H) | (have H2_ := (Option.bind_some _ _).symm.trans H; rw [hy228]; with_reducible exact H2_) | (have H2_ := (Option.bind_some _ _).symm.trans H; with_reducible exact H2_) | with_reducible exact H | (rw [hy228]; exact H) | exact H
                                            have Ny228 := Aside0.mk hy228
                                            clear hy228
                                            have H' := Aside0.mk H
                                            clear H
                                            obtain ⟨Ao31, co31, eo31⟩ := Kd.R_slice HO_12.out
                                            subst eo31
                                            go_wp2_with (first | ((with_reducible refine gate_callee (f := 74) rfl ?_); refine goesL_ (some 85) rfl rfl Try.func74 (by kernel_rfl) rfl #[.slice Ao31 x12_5.length co31] rfl (by (try simp only [List.map_toArray, List.map_cons, List.map_nil]); first | done | rfl | (simp only [List.length_drop, List.length_take]; rfl)) ?_; (with_reducible refine (slices_Sort_int8_int8.calls k5 (fun k_ => some k_ = (.slice Ao31 x12_5.length co31 : Value).ownBlock) (.slice Ao31 x12_5.length co31) x12_5 t227 w _ ?side1 ?side2 A29.out).mono ?_); (case side1 => repeat (first | (with_reducible first | exact HB.out | apply below_alloc | apply pw_below_drewN | apply below_drew1) | exact HB.out)); (case side2 => exact Kd.R_tight rfl HO_12.out); rintro e w32 ⟨rfl, hy0, hb, hkp⟩; refine ⟨_, rfl, ?_⟩; have n0_ := Aside0.mk (Kd.S_mono (ok' := fun k_ => some k_ ≠ (.slice Ao31 x12_5.length co31 : Value).ownBlock) (Kd.S_keptB (HO_6.out) hkp (fun k_ hk_ hs_ => (hk_) hs_)) (fun k_ hk_ => hk_.1)); have n1_ := Aside0.mk (Kd.R_reok rfl hy0 (fun k_ e_ => HO_12.out.1 k_ e_)); have n2_ := Aside0.mk (hb); clear HO_6; clear HO_12; clear HB; have HO_6 := n0_; have HO_12 := n1_; have HB := n2_; clear n0_ n1_ n2_; (try clear hb); (try clear hkp); (try clear hy0)) | ((with_reducible refine gate_builtin (b := .append) (xs := #[.tmp 86, .tmp 88]) rfl ?_); at_builtin; refine Kd.S_append (Kd.slice 87 (Kd.int .i8)) (w0 := w) w.heap.size rfl (.tmp 86) (.tmp 88) 53 86 (.slice none 0 0) 24 rfl Try.underlying53 info86 rfl (by decide) (by omega) u6 x6_3 t227 [.slice Ao31 x12_5.length co31] (fun _ => True) (fun k_ => some k_ = (.slice Ao31 x12_5.length co31 : Value).ownBlock) rfl rfl ?aP (fun k_ hk_ => ((Kd.R_mono (ok' := fun k_ => ((fun _ => True)) k_ ∧ some k_ ≠ (u6 : Value).ownBlock) (Kd.R_apart' (HO_12.out) (Kd.S_typed HO_6.out) (by decide)) (fun k_ hk => ⟨trivial, hk.2⟩))).1 k_ hk_.symm) ?aF ?aO ?aB ?aS ?aL ?_; (case aP => exact Kd.M_row (Kd.R_mono (Kd.R_tight rfl (Kd.R_mono (ok' := fun k_ => ((fun _ => True)) k_ ∧ some k_ ≠ (u6 : Value).ownBlock) (Kd.R_apart' (HO_12.out) (Kd.S_typed HO_6.out) (by decide)) (fun k_ hk => ⟨trivial, hk.2⟩))) (fun _ h_ => h_))); (case aB => exact (by repeat (first | (with_reducible first | exact HB.out | apply below_alloc | apply pw_below_drewN | apply below_drew1) | exact HB.out))); (case aF => exact (fun _ _ => trivial)); (case aO => exact (by (with_reducible repeat (first | apply Kd.S_alloc | apply Kd.S_drewN | apply Kd.S_drew)); exact Kd.S_mono HO_6.out (fun k_ hk => ⟨trivial, fun e_ => hk e_⟩))); (case aS => exact (below_size (by repeat (first | (with_reducible first | exact HB.out | apply below_alloc | apply pw_below_drewN | apply below_drew1) | exact HB.out)))); (case aL => have := LMc30.out; omega); intro v229 w33 ho hb hg hat; rw [← Ny228.out] at ho; have n0_ := Aside0.mk (hb); have n1_ := Aside0.mk (ho); clear HB; clear HO_6; clear HO_12; have HB := n0_; have HO230 := n1_; clear n0_ n1_; clear ho hb hg hat))
                                            go_roundg k5
                                            case measure => have := HJ2.out; have := HK2.out; have := HK3.out; have := HK4.out; have := HK5.out; omega
                                            case rel => exact ⟨(y228), (wrap64 (x46_3 + 1)), (by first | rfl | (simp; done) | (simp [*]; done)), H', ⟨by have := HJ2.out; have := HK2.out; have := HK3.out; have := HK4.out; have := HK5.out; omega⟩, ⟨by (with_reducible repeat (first | apply Kd.S_alloc | apply Kd.S_drewN | apply Kd.S_drew)); exact HO230.out⟩, ⟨by repeat (first | (with_reducible first | exact HB.out | apply below_alloc | apply pw_below_drewN | apply below_drew1) | exact HB.out)⟩⟩
                                          · rw [if_neg c30] at H
                                            exact absurd H (by simp)
                            · rw [if_neg c16] at H
                              exact absurd H (by simp)
                          · rw [if_neg c15] at H
                            exact absurd H (by simp)
                        · rw [if_neg c14] at H
                          have c14b0 : decide (x46_3 < (l0.length : Int)) = false := decide_eq_false c14
                          clear c14
                          have H' := Aside0.mk H
                          clear H
                          go_wp2
                          go_roundg k3
                          case measure => have := HJ2.out; have := HK2.out; have := HK3.out; omega
                          case rel => exact ⟨(x6_3), (wrap64 (x39_2 + 1)), (by first | rfl | (simp; done) | (simp [*]; done)), H', ⟨by have := HJ2.out; have := HK2.out; have := HK3.out; omega⟩, ⟨by (with_reducible repeat (first | apply Kd.S_alloc | apply Kd.S_drewN | apply Kd.S_drew)); exact HO_6.out⟩, ⟨by repeat (first | (with_reducible first | exact HB.out | apply below_alloc | apply pw_below_drewN | apply below_drew1) | exact HB.out)⟩⟩
                  · rw [if_neg c13] at H
                    exact absurd H (by simp)
                · rw [if_neg c12] at H
                  exact absurd H (by simp)
              · rw [if_neg c11] at H
                have c11b0 : decide (x39_2 < (l1.length : Int)) = false := decide_eq_false c11
                clear c11
                simp only [Option.some.injEq, Prod.mk.injEq] at H
                obtain ⟨rfl, rfl⟩ := H
                go_wp2
                go_ret2
                exact ⟨_, by first | rfl | (simp [errW_none, errW_some] <;> rfl) | (simp [*, errW_none, errW_some] <;> rfl), by (with_reducible repeat (first | apply Kd.S_alloc | apply Kd.S_drewN | apply Kd.S_drew)); exact HO_6.out, by repeat (first | (with_reducible first | exact HB.out | apply below_alloc | apply pw_below_drewN | apply below_drew1) | exact HB.out)⟩

/-! ### laws_eqInt8S: function 75 -/
def laws_eqInt8S.l0 : Nat → List Int → List Int → Int → Option (Bool)
  | 0, _, _, _ => none
  | k + 1, x0, x1, x5 => if x5 < (x0.length : Int) then (if 0 ≤ x5 then (if x5 < (x1.length : Int) then (if (rd x0 x5) = (rd x1 x5) then (laws_eqInt8S.l0 k x0 x1 (wrap64 (x5 + 1))) else (some false)) else (none)) else (none)) else (some true)
def laws_eqInt8S.f (k : Nat) (l0 : List Int) (l1 : List Int) : Option (Bool) := if (l0.length : Int) = (l1.length : Int) then (laws_eqInt8S.l0 k l0 l1 0) else (some false)
theorem laws_eqInt8S.mono_l : ∀ k, (∀ y0 y1 y2, LeO (laws_eqInt8S.l0 k y0 y1 y2) (laws_eqInt8S.l0 (k + 1) y0 y1 y2))
  | 0 => fun _ _ _ r h => by simp [laws_eqInt8S.l0] at h
  | k + 1 => by
    have ih0 := laws_eqInt8S.mono_l k
    · intro y0 y1 y2
      unfold laws_eqInt8S.l0
      repeat' first
      | (with_reducible exact ih0 _ _ _)
      | (with_reducible exact LeO.refl _)
      | (with_reducible exact LeO.none _)
      | (with_reducible refine LeO.ite ?_ ?_)
      | (with_reducible refine LeO.bind ?_ (fun _ => ?_))
      | exact ih0 _ _ _
      | exact LeO.none _
      | refine LeO.ite ?_ ?_
      | refine LeO.bind ?_ (fun _ => ?_)
theorem laws_eqInt8S.mono : ∀ a0 a1 k, LeO (laws_eqInt8S.f k a0 a1) (laws_eqInt8S.f (k + 1) a0 a1) := by
  intro a0 a1 k
  have ih0 := laws_eqInt8S.mono_l k
  unfold laws_eqInt8S.f
  repeat' first
      | (with_reducible exact ih0 _ _ _)
      | (with_reducible exact LeO.refl _)
      | (with_reducible exact LeO.none _)
      | (with_reducible refine LeO.ite ?_ ?_)
      | (with_reducible refine LeO.bind ?_ (fun _ => ?_))
      | exact ih0 _ _ _
      | exact LeO.none _
      | refine LeO.ite ?_ ?_
      | refine LeO.bind ?_ (fun _ => ?_)
set_option maxHeartbeats 8000000 in
set_option maxRecDepth 100000 in
theorem laws_eqInt8S.calls (k : Nat) (A0 : Option Addr) (c0 : Nat) (l0 : List Int) (A1 : Option Addr) (c1 : Nat) (l1 : List Int) (r : Bool) (w : World) (hr0 : Kd.C (Kd.int .i8) w A0 l0.length l0) (hc0 : l0.length ≤ c0) (hr1 : Kd.C (Kd.int .i8) w A1 l1.length l1) (hc1 : l1.length ≤ c1) (h : laws_eqInt8S.f k l0 l1 = some r) :
    Calls Try.prog 75 #[.slice A0 l0.length c0, .slice A1 l1.length c1] w fun e w' => e = .returned (.bool r) ∧ Drawn0 w w' := by
  have HR0 := Aside0.mk hr0
  have HC0 := Aside0.mk hc0
  clear hr0 hc0
  have HR1 := Aside0.mk hr1
  have HC1 := Aside0.mk hc1
  clear hr1 hc1
  have H : (if (l0.length : Int) = (l1.length : Int) then (laws_eqInt8S.l0 k l0 l1 0) else (some false)) = some r := h
  clear h
  by_cases c3 : (l0.length : Int) = (l1.length : Int)
  · rw [if_pos c3] at H
    have c3b0 : ((l0.length : Int) == (l1.length : Int)) = true := beq_iff_eq.mpr c3
    have c3b1 : ((l0.length : Int) != (l1.length : Int)) = false := bne_eq_false_iff_eq.mpr c3
    have c3b2 : (l0.length == l1.length) = true := by first | simpa using c3 | (simp at c3 ⊢; omega)
    clear c3
    have H' := Aside0.mk H
    clear H
    go_enter Try.func75, Try.ntmps75
    go_wp2
    repeat (go_quiet (fail); try go_wp2)
    go_loopg [5] k (fun kq v5 w' => ∃ (x5_1 : Int), v5 = .int .i64 x5_1 ∧ Aside0 (laws_eqInt8S.l0 kq l0 l1 x5_1 = some r) ∧ Aside0 (kq ≤ k) ∧ Drawn0 w w')
    case atStart => exact ⟨(0), (by first | rfl | (simp; done) | (simp [*]; done)), H', ⟨Nat.le_refl _⟩, by repeat (first | exact Drawn0.refl _ | apply Drawn0.step)⟩
    case round =>
      clear H'
      try clear c1
      try clear p2
      try clear c3
      try clear c3b0
      try clear c3b1
      try clear c3b2
      obtain ⟨x5_1, rfl, HA, HK1, ⟨m1, rfl⟩⟩ := hrel
      cases gk with
      | zero => exact absurd HA.out (by simp [laws_eqInt8S.l0])
      | succ k1 =>
        have H := HA.out
        clear HA
        simp only [laws_eqInt8S.l0] at H
        by_cases c4 : x5_1 < (l0.length : Int)
        · rw [if_pos c4] at H
          have c4b0 : decide (x5_1 < (l0.length : Int)) = true := decide_eq_true c4
          clear c4
          by_cases c5 : 0 ≤ x5_1
          · rw [if_pos c5] at H
            have c5b0 : decide (0 ≤ x5_1) = true := decide_eq_true c5
            clear c5
            by_cases c6 : x5_1 < (l1.length : Int)
            · rw [if_pos c6] at H
              have c6b0 : decide (x5_1 < (l1.length : Int)) = true := decide_eq_true c6
              clear c6
              by_cases c7 : (rd l0 x5_1) = (rd l1 x5_1)
              · rw [if_pos c7] at H
                have c7b0 : ((rd l0 x5_1) == (rd l1 x5_1)) = true := beq_iff_eq.mpr c7
                have c7b1 : ((rd l0 x5_1) != (rd l1 x5_1)) = false := bne_eq_false_iff_eq.mpr c7
                clear c7
                have H' := Aside0.mk H
                clear H
                have p231 : 0 ≤ (x5_1 : Int) := of_decide_eq_true (by first | (with_reducible assumption) | assumption)
                have q231 : x5_1 < (l0.length : Int) := of_decide_eq_true (by first | (with_reducible assumption) | assumption)
                obtain ⟨ad231, e231, hx231_0⟩ := Kd.at_int HR0.out x5_1 p231 q231
                cases e231
                replace p231 := eq_true p231
                replace q231 := eq_true q231
                have p232 : 0 ≤ (x5_1 : Int) := of_decide_eq_true (by first | (with_reducible assumption) | assumption)
                have q232 : x5_1 < (l1.length : Int) := of_decide_eq_true (by first | (with_reducible assumption) | assumption)
                obtain ⟨ad232, e232, hx232_0⟩ := Kd.at_int HR1.out x5_1 p232 q232
                cases e232
                replace p232 := eq_true p232
                replace q232 := eq_true q232
                go_wp2
                repeat (go_quiet (fail); try go_wp2)
                go_roundg k1
                case measure => have := HK1.out; omega
                case rel => exact ⟨(wrap64 (x5_1 + 1)), (by first | rfl | (simp; done) | (simp [*]; done)), H', ⟨by have := HK1.out; omega⟩, by repeat (first | exact Drawn0.refl _ | apply Drawn0.step)⟩
              · rw [if_neg c7] at H
                have c7b0 : ((rd l0 x5_1) == (rd l1 x5_1)) = false := beq_eq_false_iff_ne.mpr c7
                have c7b1 : ((rd l0 x5_1) != (rd l1 x5_1)) = true := bne_iff_ne.mpr c7
                obtain rfl := Option.some.inj H
                have p231 : 0 ≤ (x5_1 : Int) := of_decide_eq_true (by first | (with_reducible assumption) | assumption)
                have q231 : x5_1 < (l0.length : Int) := of_decide_eq_true (by first | (with_reducible assumption) | assumption)
                obtain ⟨ad231, e231, hx231_0⟩ := Kd.at_int HR0.out x5_1 p231 q231
                cases e231
                replace p231 := eq_true p231
                replace q231 := eq_true q231
                have p232 : 0 ≤ (x5_1 : Int) := of_decide_eq_true (by first | (with_reducible assumption) | assumption)
                have q232 : x5_1 < (l1.length : Int) := of_decide_eq_true (by first | (with_reducible assumption) | assumption)
                obtain ⟨ad232, e232, hx232_0⟩ := Kd.at_int HR1.out x5_1 p232 q232
                cases e232
                replace p232 := eq_true p232
                replace q232 := eq_true q232
                go_wp2
                repeat (go_quiet (fail); try go_wp2)
                go_ret
                exact ⟨by first | rfl | (simp; done) | (simp [*]; done), by repeat (first | exact Drawn0.refl _ | apply Drawn0.step)⟩
            · rw [if_neg c6] at H
              exact absurd H (by simp)
          · rw [if_neg c5] at H
            exact absurd H (by simp)
        · rw [if_neg c4] at H
          have c4b0 : decide (x5_1 < (l0.length : Int)) = false := decide_eq_false c4
          clear c4
          obtain rfl := Option.some.inj H
          go_wp2
          repeat (go_quiet (fail); try go_wp2)
          go_ret
          exact ⟨by first | rfl | (simp; done) | (simp [*]; done), by repeat (first | exact Drawn0.refl _ | apply Drawn0.step)⟩
  · rw [if_neg c3] at H
    have c3b0 : ((l0.length : Int) == (l1.length : Int)) = false := beq_eq_false_iff_ne.mpr c3
    have c3b1 : ((l0.length : Int) != (l1.length : Int)) = true := bne_iff_ne.mpr c3
    have c3b2 : (l0.length == l1.length) = false := by first | simpa using c3 | (simp at c3 ⊢; omega)
    obtain rfl := Option.some.inj H
    go_enter Try.func75, Try.ntmps75
    go_wp2
    repeat (go_quiet (fail); try go_wp2)
    go_ret
    exact ⟨by first | rfl | (simp; done) | (simp [*]; done), by repeat (first | exact Drawn0.refl _ | apply Drawn0.step)⟩

end Go.Proofs.Yteinllalhiflcaa.QFnExactAddGames
