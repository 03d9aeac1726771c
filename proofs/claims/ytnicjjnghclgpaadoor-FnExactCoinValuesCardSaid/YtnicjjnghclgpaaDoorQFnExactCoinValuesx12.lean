/- Written by the session's own program (wip/myprint.py), for the law FnExactCoinValues: each function as a plain Lean function, and its contract. -/
import Derived.Test.YtnicjjnghclgpaaDoorQFnExactCoinValuesx0
import Derived.Test.YtnicjjnghclgpaaDoorQFnExactCoinValuesx2
import Derived.Test.YtnicjjnghclgpaaDoorQFnExactCoinValuesx11
namespace Go.Proofs.YtnicjjnghclgpaaDoor.QFnExactCoinValues
open Go.RowKit Go.Proofs.YtnicjjnghclgpaaDoorW.PrintWords Go.Proofs.YtnicjjnghclgpaaDoorW.PrintLast Go.Proofs.YtnicjjnghclgpaaDoorW.PrintMore
attribute [local go_sem] max2_int min2_int max_two min_two max_three min_three max_four min_four   -- for this text's walks alone
set_option linter.unusedVariables false
set_option linter.unusedSimpArgs false

/-! ### laws_FnExactCoinValues: function 4 -/
mutual
def laws_FnExactCoinValues.j0 : Nat → Int → Int → List Int → Int → List Int → Bool → Option (Bool)
  | 0, _, _, _, _, _, _ => none
  | k + 1, x0, x1, x5, x6, x7, x33 => if x33 = true then (some false) else ((laws_markNimberS.f k x7 1).bind fun bt303 => ((laws_heldNimberS.f k bt303.2 1).bind fun t305 => (if t305 < 0 then (some false) else (if t305 = bt303.1 then ((impl_CoinValues.f k x0 x1).bind fun bt306 => ((laws_eqNimberS.f k bt306.1 x5).bind fun t310 => (if t310 = true then (laws_FnExactCoinValues.j1 k bt303.2 bt303.1 (bt306.2 != x6)) else (laws_FnExactCoinValues.j1 k bt303.2 bt303.1 true)))) else (some false)))))
def laws_FnExactCoinValues.j1 : Nat → List Int → Int → Bool → Option (Bool)
  | 0, _, _, _ => none
  | k + 1, x7, x9, x59 => if x59 = true then (some false) else ((laws_heldNimberS.f k x7 1).bind fun t311 => (if t311 < 0 then (some false) else (if t311 = x9 then (some true) else (some false))))
end
def laws_FnExactCoinValues.f (k : Nat) (a0 : Int) (a1 : Int) : Option (Bool) := (spec_CoinValues.f k a0 a1).bind fun bt294 => ((impl_CoinValues.f k a0 a1).bind fun bt298 => ((laws_eqNimberS.f k bt298.1 bt294.1).bind fun t302 => (if t302 = true then (laws_FnExactCoinValues.j0 k a0 a1 bt294.1 bt294.2 bt298.1 (bt298.2 != bt294.2)) else (laws_FnExactCoinValues.j0 k a0 a1 bt294.1 bt294.2 bt298.1 true))))
theorem laws_FnExactCoinValues.mono_l : ∀ k, (∀ y0 y1 y2 y3 y4 y5, LeO (laws_FnExactCoinValues.j0 k y0 y1 y2 y3 y4 y5) (laws_FnExactCoinValues.j0 (k + 1) y0 y1 y2 y3 y4 y5)) ∧ (∀ y0 y1 y2, LeO (laws_FnExactCoinValues.j1 k y0 y1 y2) (laws_FnExactCoinValues.j1 (k + 1) y0 y1 y2))
  | 0 => ⟨fun _ _ _ _ _ _ r h => by simp [laws_FnExactCoinValues.j0] at h, fun _ _ _ r h => by simp [laws_FnExactCoinValues.j1] at h⟩
  | k + 1 => by
    obtain ⟨ih0, ih1⟩ := laws_FnExactCoinValues.mono_l k
    refine ⟨?_, ?_⟩
    · intro y0 y1 y2 y3 y4 y5
      unfold laws_FnExactCoinValues.j0
      repeat' first
      | (with_reducible exact ih0 _ _ _ _ _ _)
      | (with_reducible exact ih1 _ _ _)
      | (with_reducible exact impl_CoinValues.mono _ _ _)
      | (with_reducible exact laws_eqNimberS.mono _ _ _)
      | (with_reducible exact laws_heldNimberS.mono _ _ _)
      | (with_reducible exact laws_markNimberS.mono _ _ _)
      | (with_reducible exact spec_CoinValues.mono _ _ _)
      | (with_reducible exact LeO.refl _)
      | (with_reducible exact LeO.none _)
      | (with_reducible refine LeO.ite ?_ ?_)
      | (with_reducible refine LeO.bind ?_ (fun _ => ?_))
      | exact ih0 _ _ _ _ _ _
      | exact ih1 _ _ _
      | exact impl_CoinValues.mono _ _ _
      | exact laws_eqNimberS.mono _ _ _
      | exact laws_heldNimberS.mono _ _ _
      | exact laws_markNimberS.mono _ _ _
      | exact spec_CoinValues.mono _ _ _
      | exact LeO.none _
      | refine LeO.ite ?_ ?_
      | refine LeO.bind ?_ (fun _ => ?_)
    · intro y0 y1 y2
      unfold laws_FnExactCoinValues.j1
      repeat' first
      | (with_reducible exact ih0 _ _ _ _ _ _)
      | (with_reducible exact ih1 _ _ _)
      | (with_reducible exact impl_CoinValues.mono _ _ _)
      | (with_reducible exact laws_eqNimberS.mono _ _ _)
      | (with_reducible exact laws_heldNimberS.mono _ _ _)
      | (with_reducible exact laws_markNimberS.mono _ _ _)
      | (with_reducible exact spec_CoinValues.mono _ _ _)
      | (with_reducible exact LeO.refl _)
      | (with_reducible exact LeO.none _)
      | (with_reducible refine LeO.ite ?_ ?_)
      | (with_reducible refine LeO.bind ?_ (fun _ => ?_))
      | exact ih0 _ _ _ _ _ _
      | exact ih1 _ _ _
      | exact impl_CoinValues.mono _ _ _
      | exact laws_eqNimberS.mono _ _ _
      | exact laws_heldNimberS.mono _ _ _
      | exact laws_markNimberS.mono _ _ _
      | exact spec_CoinValues.mono _ _ _
      | exact LeO.none _
      | refine LeO.ite ?_ ?_
      | refine LeO.bind ?_ (fun _ => ?_)
theorem laws_FnExactCoinValues.mono : ∀ a0 a1 k, LeO (laws_FnExactCoinValues.f k a0 a1) (laws_FnExactCoinValues.f (k + 1) a0 a1) := by
  intro a0 a1 k
  obtain ⟨ih0, ih1⟩ := laws_FnExactCoinValues.mono_l k
  unfold laws_FnExactCoinValues.f
  repeat' first
      | (with_reducible exact ih0 _ _ _ _ _ _)
      | (with_reducible exact ih1 _ _ _)
      | (with_reducible exact impl_CoinValues.mono _ _ _)
      | (with_reducible exact laws_eqNimberS.mono _ _ _)
      | (with_reducible exact laws_heldNimberS.mono _ _ _)
      | (with_reducible exact laws_markNimberS.mono _ _ _)
      | (with_reducible exact spec_CoinValues.mono _ _ _)
      | (with_reducible exact LeO.refl _)
      | (with_reducible exact LeO.none _)
      | (with_reducible refine LeO.ite ?_ ?_)
      | (with_reducible refine LeO.bind ?_ (fun _ => ?_))
      | exact ih0 _ _ _ _ _ _
      | exact ih1 _ _ _
      | exact impl_CoinValues.mono _ _ _
      | exact laws_eqNimberS.mono _ _ _
      | exact laws_heldNimberS.mono _ _ _
      | exact laws_markNimberS.mono _ _ _
      | exact spec_CoinValues.mono _ _ _
      | exact LeO.none _
      | refine LeO.ite ?_ ?_
      | refine LeO.bind ?_ (fun _ => ?_)
set_option maxHeartbeats 8000000 in
set_option maxRecDepth 100000 in
theorem laws_FnExactCoinValues.calls (k : Nat) (a0 : Int) (a1 : Int) (r : Bool) (w : World) (hLaid32_ : Laid32 w) (h : laws_FnExactCoinValues.f k a0 a1 = some r) :
    Calls Tryd.prog 4 #[.int .i64 a0, .int .i64 a1] w fun e w' => e = .returned (.bool r) ∧ Below w.heap.size w w' := by
  have HLaid32_ := Aside0.mk hLaid32_
  clear hLaid32_
  have HB := Aside0.mk (Below.refl w.heap.size w)
  have H : ((spec_CoinValues.f k a0 a1).bind fun bt294 => ((impl_CoinValues.f k a0 a1).bind fun bt298 => ((laws_eqNimberS.f k bt298.1 bt294.1).bind fun t302 => (if t302 = true then (laws_FnExactCoinValues.j0 k a0 a1 bt294.1 bt294.2 bt298.1 (bt298.2 != bt294.2)) else (laws_FnExactCoinValues.j0 k a0 a1 bt294.1 bt294.2 bt298.1 true))))) = some r := h
  clear h
  replace H := Option.bind_eq_some_iff.mp H
  obtain ⟨⟨t294, t295⟩, A30, H⟩ := H
  replace H : ((impl_CoinValues.f k a0 a1).bind fun bt298 => ((laws_eqNimberS.f k bt298.1 t294).bind fun t302 => (if t302 = true then (laws_FnExactCoinValues.j0 k a0 a1 t294 t295 bt298.1 (bt298.2 != t295)) else (laws_FnExactCoinValues.j0 k a0 a1 t294 t295 bt298.1 true)))) = some r := H
  have A3 := Aside0.mk A30
  clear A30
  replace H := Option.bind_eq_some_iff.mp H
  obtain ⟨⟨t298, t299⟩, A40, H⟩ := H
  replace H : ((laws_eqNimberS.f k t298 t294).bind fun t302 => (if t302 = true then (laws_FnExactCoinValues.j0 k a0 a1 t294 t295 t298 (t299 != t295)) else (laws_FnExactCoinValues.j0 k a0 a1 t294 t295 t298 true))) = some r := H
  have A4 := Aside0.mk A40
  clear A40
  have HC5 := Aside0.mk H
  clear H
  go_enter Tryd.func4, Tryd.ntmps4
  go_upto_region 3 with (first | ((with_reducible refine gate_callee (f := 12) rfl ?_); refine goesL_ (some 16) rfl rfl Tryd.func12 (by kernel_rfl) rfl #[.int .i64 a0, .int .i64 a1] rfl (by (try simp only [List.map_toArray, List.map_cons, List.map_nil]); first | done | rfl | (simp only [List.length_drop, List.length_take]; rfl)) ?_; (with_reducible refine (spec_CoinValues.calls k a0 a1 t294 t295 _ A3.out).mono ?_); rintro e w6 ⟨v296, rfl, ho0, hb⟩; refine ⟨_, rfl, ?_⟩; have n0_ := Aside0.mk (Kd.R_lower ho0 (below_size (by repeat (first | (with_reducible first | exact HB.out | apply below_alloc | apply pw_below_drewN | apply below_drew1) | exact HB.out)))); have n1_ := Aside0.mk (below_step (by repeat (first | (with_reducible first | exact HB.out | apply below_alloc | apply pw_below_drewN | apply below_drew1) | exact HB.out)) hb); clear HB; have HO297 := n0_; have HB := n1_; clear n0_ n1_; (try clear hb); (try clear hb2); (try clear hk); (try clear hi); (try clear ho0)) | ((with_reducible refine gate_callee (f := 13) rfl ?_); refine goesL_ (some 22) rfl rfl Tryd.func13 (by kernel_rfl) rfl #[.int .i64 a0, .int .i64 a1] rfl (by (try simp only [List.map_toArray, List.map_cons, List.map_nil]); first | done | rfl | (simp only [List.length_drop, List.length_take]; rfl)) ?_; (with_reducible refine (impl_CoinValues.calls k a0 a1 t298 t299 _ (by repeat (first | exact HLaid32_.out | exact Laid32.below HLaid32_.out HB.out | exact Laid32.below HLaid32_.out (Drawn0.below ⟨⟨_, rfl⟩⟩) | apply Laid32.drew)) A4.out).mono ?_); rintro e w7 ⟨v300, rfl, ho0, hb⟩; refine ⟨_, rfl, ?_⟩; have n0_ := Aside0.mk (Kd.R_elder' (by (with_reducible repeat (first | apply Kd.R_alloc | apply Kd.R_drewN | apply Kd.R_drew)); exact HO297.out) (Kd.R_base ho0) hb); have n1_ := Aside0.mk (Kd.R_lower (Kd.R_new' ho0 (Kd.R_lt (by (with_reducible repeat (first | apply Kd.R_alloc | apply Kd.R_drewN | apply Kd.R_drew)); exact HO297.out))) (below_size (by repeat (first | (with_reducible first | exact HB.out | apply below_alloc | apply pw_below_drewN | apply below_drew1) | exact HB.out)))); have n2_ := Aside0.mk (below_step (by repeat (first | (with_reducible first | exact HB.out | apply below_alloc | apply pw_below_drewN | apply below_drew1) | exact HB.out)) hb); clear HO297; clear HB; have HO297 := n0_; have HO301 := n1_; have HB := n2_; clear n0_ n1_ n2_; (try clear hb); (try clear hb2); (try clear hk); (try clear hi); (try clear ho0)))
  (try simp only [Act.put, List.setIfInBounds_toArray, List.set_cons_zero, List.set_cons_succ])
  go_cut [33] (fun v33 wc => ∃ (kq : Nat) (x33_4 : Bool), v33 = .bool x33_4 ∧ Aside0 (laws_FnExactCoinValues.j0 kq a0 a1 t294 t295 t298 x33_4 = some r) ∧ Aside0 (kq ≤ k) ∧ Aside0 (Kd.R (Kd.int .u16) 35 wc w.heap.size (fun k_ => some k_ ≠ (v300 : Value).ownBlock) v296 t294) ∧ Aside0 (Kd.R (Kd.int .u16) 35 wc w.heap.size (fun k_ => some k_ ≠ (v296 : Value).ownBlock) v300 t298) ∧ Aside0 (Below w.heap.size w wc))
  case first =>
    have H := HC5.out
    clear HC5
    replace H := Option.bind_eq_some_iff.mp H
    obtain ⟨t302, A80, H⟩ := H
    replace H : (if t302 = true then (laws_FnExactCoinValues.j0 k a0 a1 t294 t295 t298 (t299 != t295)) else (laws_FnExactCoinValues.j0 k a0 a1 t294 t295 t298 true)) = some r := H
    have A8 := Aside0.mk A80
    clear A80
    by_cases c9 : t302 = true
    · subst c9
      have H1 : (laws_FnExactCoinValues.j0 k a0 a1 t294 t295 t298 (t299 != t295)) = some r := by rw [if_pos rfl] at H; exact H
      clear H
      have H := H1
      clear H1
      have H' := Aside0.mk H
      clear H
      obtain ⟨Ao10, co10, eo10⟩ := Kd.R_slice HO301.out
      subst eo10
      obtain ⟨Ao11, co11, eo11⟩ := Kd.R_slice HO297.out
      subst eo11
      go_wp2_with (first | ((with_reducible refine gate_callee (f := 14) rfl ?_); refine goesL_ (some 27) rfl rfl Tryd.func14 (by kernel_rfl) rfl #[.slice Ao10 t298.length co10, .slice Ao11 t294.length co11] rfl (by (try simp only [List.map_toArray, List.map_cons, List.map_nil]); first | done | rfl | (simp only [List.length_drop, List.length_take]; rfl)) ?_; (with_reducible refine (laws_eqNimberS.calls k _ _ t298 _ _ t294 true _ ?side1 ?side2 ?side3 ?side4 A8.out).mono ?_); (case side1 => repeat (first | exact (Kd.R_reads' HO301.out).2.2 | (with_reducible refine Kd.C_alloc ?_ _) | (with_reducible refine Kd.C_drewN ?_ _) | (with_reducible refine Kd.C_drew ?_))); (case side2 => exact (Kd.R_reads' HO301.out).2.1); (case side3 => repeat (first | exact (Kd.R_reads' HO297.out).2.2 | (with_reducible refine Kd.C_alloc ?_ _) | (with_reducible refine Kd.C_drewN ?_ _) | (with_reducible refine Kd.C_drew ?_))); (case side4 => exact (Kd.R_reads' HO297.out).2.1); rintro e w' ⟨rfl, ⟨nd, rfl⟩⟩; refine ⟨_, rfl, ?_⟩))
      go_meet
      case rel => exact ⟨_, ((t299 != t295)), (by first | rfl | (simp; done) | (simp [*]; done)), H', ⟨by first | omega | exact Nat.le_refl _⟩, ⟨by (with_reducible repeat (first | apply Kd.R_alloc | apply Kd.R_drewN | apply Kd.R_drew)); exact Kd.R_mono HO297.out (fun _ hk => hk.2)⟩, ⟨by (with_reducible repeat (first | apply Kd.R_alloc | apply Kd.R_drewN | apply Kd.R_drew)); exact Kd.R_mono HO301.out (fun _ hk => hk.2)⟩, ⟨by repeat (first | (with_reducible first | exact HB.out | apply below_alloc | apply pw_below_drewN | apply below_drew1) | exact HB.out)⟩⟩
    · replace c9 := Bool.eq_false_iff.mpr c9
      subst c9
      have H1 : (laws_FnExactCoinValues.j0 k a0 a1 t294 t295 t298 true) = some r := by rw [if_neg (show ¬ (false = true) by decide)] at H; exact H
      clear H
      have H := H1
      clear H1
      have H' := Aside0.mk H
      clear H
      obtain ⟨Ao12, co12, eo12⟩ := Kd.R_slice HO301.out
      subst eo12
      obtain ⟨Ao13, co13, eo13⟩ := Kd.R_slice HO297.out
      subst eo13
      go_wp2_with (first | ((with_reducible refine gate_callee (f := 14) rfl ?_); refine goesL_ (some 27) rfl rfl Tryd.func14 (by kernel_rfl) rfl #[.slice Ao12 t298.length co12, .slice Ao13 t294.length co13] rfl (by (try simp only [List.map_toArray, List.map_cons, List.map_nil]); first | done | rfl | (simp only [List.length_drop, List.length_take]; rfl)) ?_; (with_reducible refine (laws_eqNimberS.calls k _ _ t298 _ _ t294 false _ ?side1 ?side2 ?side3 ?side4 A8.out).mono ?_); (case side1 => repeat (first | exact (Kd.R_reads' HO301.out).2.2 | (with_reducible refine Kd.C_alloc ?_ _) | (with_reducible refine Kd.C_drewN ?_ _) | (with_reducible refine Kd.C_drew ?_))); (case side2 => exact (Kd.R_reads' HO301.out).2.1); (case side3 => repeat (first | exact (Kd.R_reads' HO297.out).2.2 | (with_reducible refine Kd.C_alloc ?_ _) | (with_reducible refine Kd.C_drewN ?_ _) | (with_reducible refine Kd.C_drew ?_))); (case side4 => exact (Kd.R_reads' HO297.out).2.1); rintro e w' ⟨rfl, ⟨nd, rfl⟩⟩; refine ⟨_, rfl, ?_⟩))
      go_meet
      case rel => exact ⟨_, (true), (by first | rfl | (simp; done) | (simp [*]; done)), H', ⟨by first | omega | exact Nat.le_refl _⟩, ⟨by (with_reducible repeat (first | apply Kd.R_alloc | apply Kd.R_drewN | apply Kd.R_drew)); exact Kd.R_mono HO297.out (fun _ hk => hk.2)⟩, ⟨by (with_reducible repeat (first | apply Kd.R_alloc | apply Kd.R_drewN | apply Kd.R_drew)); exact Kd.R_mono HO301.out (fun _ hk => hk.2)⟩, ⟨by repeat (first | (with_reducible first | exact HB.out | apply below_alloc | apply pw_below_drewN | apply below_drew1) | exact HB.out)⟩⟩
  case rest =>
    clear HC5
    try clear c1
    try clear p2
    try clear c4
    try clear c9
    try clear c12
    try clear c13
    obtain ⟨kq, x33_4, rfl, HA, HJ4, HO_5, HO_7, HB⟩ := hcut
    cases kq with
    | zero => exact absurd HA.out (by simp [laws_FnExactCoinValues.j0])
    | succ kj4 =>
      have H := HA.out
      clear HA
      simp only [laws_FnExactCoinValues.j0] at H
      by_cases c14 : x33_4 = true
      · subst c14
        have H1 : (some false) = some r := by rw [if_pos rfl] at H; exact H
        clear H
        have H := H1
        clear H1
        obtain rfl := Option.some.inj H
        go_wp2
        go_ret
        exact ⟨by first | rfl | (simp [errW_none, errW_some] <;> rfl) | (simp [*, errW_none, errW_some] <;> rfl), by repeat (first | (with_reducible first | exact HB.out | apply below_alloc | apply pw_below_drewN | apply below_drew1) | exact HB.out)⟩
      · replace c14 := Bool.eq_false_iff.mpr c14
        subst c14
        have H1 : ((laws_markNimberS.f kj4 t298 1).bind fun bt303 => ((laws_heldNimberS.f kj4 bt303.2 1).bind fun t305 => (if t305 < 0 then (some false) else (if t305 = bt303.1 then ((impl_CoinValues.f kj4 a0 a1).bind fun bt306 => ((laws_eqNimberS.f kj4 bt306.1 t294).bind fun t310 => (if t310 = true then (laws_FnExactCoinValues.j1 kj4 bt303.2 bt303.1 (bt306.2 != t295)) else (laws_FnExactCoinValues.j1 kj4 bt303.2 bt303.1 true)))) else (some false))))) = some r := by rw [if_neg (show ¬ (false = true) by decide)] at H; exact H
        clear H
        have H := H1
        clear H1
        replace H := Option.bind_eq_some_iff.mp H
        obtain ⟨⟨t303, t304⟩, A150, H⟩ := H
        replace H : ((laws_heldNimberS.f kj4 t304 1).bind fun t305 => (if t305 < 0 then (some false) else (if t305 = t303 then ((impl_CoinValues.f kj4 a0 a1).bind fun bt306 => ((laws_eqNimberS.f kj4 bt306.1 t294).bind fun t310 => (if t310 = true then (laws_FnExactCoinValues.j1 kj4 t304 t303 (bt306.2 != t295)) else (laws_FnExactCoinValues.j1 kj4 t304 t303 true)))) else (some false)))) = some r := H
        have A15 := Aside0.mk A150
        clear A150
        replace H := Option.bind_eq_some_iff.mp H
        obtain ⟨t305, A160, H⟩ := H
        replace H : (if t305 < 0 then (some false) else (if t305 = t303 then ((impl_CoinValues.f kj4 a0 a1).bind fun bt306 => ((laws_eqNimberS.f kj4 bt306.1 t294).bind fun t310 => (if t310 = true then (laws_FnExactCoinValues.j1 kj4 t304 t303 (bt306.2 != t295)) else (laws_FnExactCoinValues.j1 kj4 t304 t303 true)))) else (some false))) = some r := H
        have A16 := Aside0.mk A160
        clear A160
        by_cases c17 : t305 < 0
        · rw [if_pos c17] at H
          have c17b0 : decide (t305 < 0) = true := decide_eq_true c17
          clear c17
          obtain rfl := Option.some.inj H
          obtain ⟨Ao18, co18, eo18⟩ := Kd.R_slice HO_7.out
          subst eo18
          go_wp2_with (first | ((with_reducible refine gate_callee (f := 15) rfl ?_); refine goesL_ (some 36) rfl rfl Tryd.func15 (by kernel_rfl) rfl #[.slice Ao18 t298.length co18, .int .i64 1] rfl (by (try simp only [List.map_toArray, List.map_cons, List.map_nil]); first | done | rfl | (simp only [List.length_drop, List.length_take]; rfl)) ?_; (with_reducible refine (laws_markNimberS.calls kj4 (fun k_ => some k_ = (.slice Ao18 t298.length co18 : Value).ownBlock) (.slice Ao18 t298.length co18) t298 1 t303 t304 w _ ?side1 ?side2 A15.out).mono ?_); (case side1 => repeat (first | (with_reducible first | exact HB.out | apply below_alloc | apply pw_below_drewN | apply below_drew1) | exact HB.out)); (case side2 => exact Kd.R_tight rfl HO_7.out); rintro e w19 ⟨rfl, hy0, hb, hkp⟩; refine ⟨_, rfl, ?_⟩; have n0_ := Aside0.mk (Kd.R_mono (ok' := fun k_ => some k_ ≠ (.slice Ao18 t298.length co18 : Value).ownBlock) (Kd.R_keptB (HO_5.out) hkp (fun k_ hk_ hs_ => (hk_) hs_)) (fun k_ hk_ => hk_.1)); have n1_ := Aside0.mk (Kd.R_reok rfl hy0 (fun k_ e_ => HO_7.out.1 k_ e_)); have n2_ := Aside0.mk (hb); clear HO_5; clear HO_7; clear HB; have HO_5 := n0_; have HO_7 := n1_; have HB := n2_; clear n0_ n1_ n2_; (try clear hb); (try clear hkp); (try clear hy0)) | ((with_reducible refine gate_callee (f := 16) rfl ?_); refine goesL_ (some 39) rfl rfl Tryd.func16 (by kernel_rfl) rfl #[.slice Ao18 t304.length co18, .int .i64 1] rfl (by (try simp only [List.map_toArray, List.map_cons, List.map_nil]); first | done | (rw [show t304.length = t298.length from (Kd.R_reads' HO_7.out).1.symm] <;> rfl) | rfl | (simp only [List.length_drop, List.length_take]; rfl)) ?_; (with_reducible refine (laws_heldNimberS.calls kj4 _ _ t304 1 t305 _ ?side1 ?side2 A16.out).mono ?_); (case side1 => repeat (first | exact (Kd.R_reads' HO_7.out).2.2 | (with_reducible refine Kd.C_alloc ?_ _) | (with_reducible refine Kd.C_drewN ?_ _) | (with_reducible refine Kd.C_drew ?_))); (case side2 => rw [show t304.length = t298.length from (Kd.R_reads' HO_7.out).1.symm]; exact (Kd.R_reads' HO_7.out).2.1); rintro e w' ⟨rfl, ⟨nd, rfl⟩⟩; refine ⟨_, rfl, ?_⟩))
          go_ret
          exact ⟨by first | rfl | (simp [errW_none, errW_some] <;> rfl) | (simp [*, errW_none, errW_some] <;> rfl), by repeat (first | (with_reducible first | exact HB.out | apply below_alloc | apply pw_below_drewN | apply below_drew1) | exact HB.out)⟩
        · rw [if_neg c17] at H
          have c17b0 : decide (t305 < 0) = false := decide_eq_false c17
          clear c17
          by_cases c20 : t305 = t303
          · rw [if_pos c20] at H
            have c20b0 : (t305 == t303) = true := beq_iff_eq.mpr c20
            have c20b1 : (t305 != t303) = false := bne_eq_false_iff_eq.mpr c20
            clear c20
            replace H := Option.bind_eq_some_iff.mp H
            obtain ⟨⟨t306, t307⟩, A210, H⟩ := H
            replace H : ((laws_eqNimberS.f kj4 t306 t294).bind fun t310 => (if t310 = true then (laws_FnExactCoinValues.j1 kj4 t304 t303 (t307 != t295)) else (laws_FnExactCoinValues.j1 kj4 t304 t303 true))) = some r := H
            have A21 := Aside0.mk A210
            clear A210
            have HC22 := Aside0.mk H
            clear H
            obtain ⟨Ao23, co23, eo23⟩ := Kd.R_slice HO_7.out
            subst eo23
            go_upto_region 14 with (first | ((with_reducible refine gate_callee (f := 15) rfl ?_); refine goesL_ (some 36) rfl rfl Tryd.func15 (by kernel_rfl) rfl #[.slice Ao23 t298.length co23, .int .i64 1] rfl (by (try simp only [List.map_toArray, List.map_cons, List.map_nil]); first | done | rfl | (simp only [List.length_drop, List.length_take]; rfl)) ?_; (with_reducible refine (laws_markNimberS.calls kj4 (fun k_ => some k_ = (.slice Ao23 t298.length co23 : Value).ownBlock) (.slice Ao23 t298.length co23) t298 1 t303 t304 w _ ?side1 ?side2 A15.out).mono ?_); (case side1 => repeat (first | (with_reducible first | exact HB.out | apply below_alloc | apply pw_below_drewN | apply below_drew1) | exact HB.out)); (case side2 => exact Kd.R_tight rfl HO_7.out); rintro e w24 ⟨rfl, hy0, hb, hkp⟩; refine ⟨_, rfl, ?_⟩; have n0_ := Aside0.mk (Kd.R_mono (ok' := fun k_ => some k_ ≠ (.slice Ao23 t298.length co23 : Value).ownBlock) (Kd.R_keptB (HO_5.out) hkp (fun k_ hk_ hs_ => (hk_) hs_)) (fun k_ hk_ => hk_.1)); have n1_ := Aside0.mk (Kd.R_reok rfl hy0 (fun k_ e_ => HO_7.out.1 k_ e_)); have n2_ := Aside0.mk (hb); clear HO_5; clear HO_7; clear HB; have HO_5 := n0_; have HO_7 := n1_; have HB := n2_; clear n0_ n1_ n2_; (try clear hb); (try clear hkp); (try clear hy0)) | ((with_reducible refine gate_callee (f := 16) rfl ?_); refine goesL_ (some 39) rfl rfl Tryd.func16 (by kernel_rfl) rfl #[.slice Ao23 t304.length co23, .int .i64 1] rfl (by (try simp only [List.map_toArray, List.map_cons, List.map_nil]); first | done | (rw [show t304.length = t298.length from (Kd.R_reads' HO_7.out).1.symm] <;> rfl) | rfl | (simp only [List.length_drop, List.length_take]; rfl)) ?_; (with_reducible refine (laws_heldNimberS.calls kj4 _ _ t304 1 t305 _ ?side1 ?side2 A16.out).mono ?_); (case side1 => repeat (first | exact (Kd.R_reads' HO_7.out).2.2 | (with_reducible refine Kd.C_alloc ?_ _) | (with_reducible refine Kd.C_drewN ?_ _) | (with_reducible refine Kd.C_drew ?_))); (case side2 => rw [show t304.length = t298.length from (Kd.R_reads' HO_7.out).1.symm]; exact (Kd.R_reads' HO_7.out).2.1); rintro e w' ⟨rfl, ⟨nd, rfl⟩⟩; refine ⟨_, rfl, ?_⟩) | ((with_reducible refine gate_callee (f := 13) rfl ?_); refine goesL_ (some 48) rfl rfl Tryd.func13 (by kernel_rfl) rfl #[.int .i64 a0, .int .i64 a1] rfl (by (try simp only [List.map_toArray, List.map_cons, List.map_nil]); first | done | rfl | (simp only [List.length_drop, List.length_take]; rfl)) ?_; (with_reducible refine (impl_CoinValues.calls kj4 a0 a1 t306 t307 _ (by repeat (first | exact HLaid32_.out | exact Laid32.below HLaid32_.out HB.out | exact Laid32.below HLaid32_.out (Drawn0.below ⟨⟨_, rfl⟩⟩) | apply Laid32.drew)) A21.out).mono ?_); rintro e w25 ⟨v308, rfl, ho0, hb⟩; refine ⟨_, rfl, ?_⟩; have n0_ := Aside0.mk (Kd.R_elder' (by (with_reducible repeat (first | apply Kd.R_alloc | apply Kd.R_drewN | apply Kd.R_drew)); exact HO_5.out) (Kd.R_base ho0) hb); have n1_ := Aside0.mk (Kd.R_elder' (by (with_reducible repeat (first | apply Kd.R_alloc | apply Kd.R_drewN | apply Kd.R_drew)); exact HO_7.out) (Kd.R_base ho0) hb); have n2_ := Aside0.mk (Kd.R_lower (Kd.R_new' (Kd.R_new' ho0 (Kd.R_lt (by (with_reducible repeat (first | apply Kd.R_alloc | apply Kd.R_drewN | apply Kd.R_drew)); exact HO_5.out))) (Kd.R_lt (by (with_reducible repeat (first | apply Kd.R_alloc | apply Kd.R_drewN | apply Kd.R_drew)); exact HO_7.out))) (below_size (by repeat (first | (with_reducible first | exact HB.out | apply below_alloc | apply pw_below_drewN | apply below_drew1) | exact HB.out)))); have n3_ := Aside0.mk (below_step (by repeat (first | (with_reducible first | exact HB.out | apply below_alloc | apply pw_below_drewN | apply below_drew1) | exact HB.out)) hb); clear HO_5; clear HO_7; clear HB; have HO_5 := n0_; have HO_7 := n1_; have HO309 := n2_; have HB := n3_; clear n0_ n1_ n2_ n3_; (try clear hb); (try clear hb2); (try clear hk); (try clear hi); (try clear ho0)))
            (try simp only [Act.put, List.setIfInBounds_toArray, List.set_cons_zero, List.set_cons_succ])
            go_cut [59] (fun v59 wc => ∃ (kq : Nat) (x59_21 : Bool), v59 = .bool x59_21 ∧ Aside0 (laws_FnExactCoinValues.j1 kq t304 t303 x59_21 = some r) ∧ Aside0 (kq ≤ kj4) ∧ Aside0 (Kd.R (Kd.int .u16) 35 wc w.heap.size (fun _ => True) (.slice Ao23 t298.length co23) t304) ∧ Aside0 (Below w.heap.size w wc))
            case first =>
              have H := HC22.out
              clear HC22
              replace H := Option.bind_eq_some_iff.mp H
              obtain ⟨t310, A260, H⟩ := H
              replace H : (if t310 = true then (laws_FnExactCoinValues.j1 kj4 t304 t303 (t307 != t295)) else (laws_FnExactCoinValues.j1 kj4 t304 t303 true)) = some r := H
              have A26 := Aside0.mk A260
              clear A260
              by_cases c27 : t310 = true
              · subst c27
                have H1 : (laws_FnExactCoinValues.j1 kj4 t304 t303 (t307 != t295)) = some r := by rw [if_pos rfl] at H; exact H
                clear H
                have H := H1
                clear H1
                have H' := Aside0.mk H
                clear H
                obtain ⟨Ao28, co28, eo28⟩ := Kd.R_slice HO309.out
                subst eo28
                obtain ⟨Ao29, co29, eo29⟩ := Kd.R_slice HO_5.out
                subst eo29
                go_wp2_with (first | ((with_reducible refine gate_callee (f := 14) rfl ?_); refine goesL_ (some 53) rfl rfl Tryd.func14 (by kernel_rfl) rfl #[.slice Ao28 t306.length co28, .slice Ao29 t294.length co29] rfl (by (try simp only [List.map_toArray, List.map_cons, List.map_nil]); first | done | rfl | (simp only [List.length_drop, List.length_take]; rfl)) ?_; (with_reducible refine (laws_eqNimberS.calls kj4 _ _ t306 _ _ t294 true _ ?side1 ?side2 ?side3 ?side4 A26.out).mono ?_); (case side1 => repeat (first | exact (Kd.R_reads' HO309.out).2.2 | (with_reducible refine Kd.C_alloc ?_ _) | (with_reducible refine Kd.C_drewN ?_ _) | (with_reducible refine Kd.C_drew ?_))); (case side2 => exact (Kd.R_reads' HO309.out).2.1); (case side3 => repeat (first | exact (Kd.R_reads' HO_5.out).2.2 | (with_reducible refine Kd.C_alloc ?_ _) | (with_reducible refine Kd.C_drewN ?_ _) | (with_reducible refine Kd.C_drew ?_))); (case side4 => exact (Kd.R_reads' HO_5.out).2.1); rintro e w' ⟨rfl, ⟨nd, rfl⟩⟩; refine ⟨_, rfl, ?_⟩))
                go_meet
                case rel => exact ⟨_, ((t307 != t295)), (by first | rfl | (simp; done) | (simp [*]; done)), H', ⟨by have := HJ4.out; first | omega | exact Nat.le_refl _⟩, ⟨by (with_reducible repeat (first | apply Kd.R_alloc | apply Kd.R_drewN | apply Kd.R_drew)); exact Kd.R_mono HO_7.out (fun _ hk => trivial)⟩, ⟨by repeat (first | (with_reducible first | exact HB.out | apply below_alloc | apply pw_below_drewN | apply below_drew1) | exact HB.out)⟩⟩
              · replace c27 := Bool.eq_false_iff.mpr c27
                subst c27
                have H1 : (laws_FnExactCoinValues.j1 kj4 t304 t303 true) = some r := by rw [if_neg (show ¬ (false = true) by decide)] at H; exact H
                clear H
                have H := H1
                clear H1
                have H' := Aside0.mk H
                clear H
                obtain ⟨Ao30, co30, eo30⟩ := Kd.R_slice HO309.out
                subst eo30
                obtain ⟨Ao31, co31, eo31⟩ := Kd.R_slice HO_5.out
                subst eo31
                go_wp2_with (first | ((with_reducible refine gate_callee (f := 14) rfl ?_); refine goesL_ (some 53) rfl rfl Tryd.func14 (by kernel_rfl) rfl #[.slice Ao30 t306.length co30, .slice Ao31 t294.length co31] rfl (by (try simp only [List.map_toArray, List.map_cons, List.map_nil]); first | done | rfl | (simp only [List.length_drop, List.length_take]; rfl)) ?_; (with_reducible refine (laws_eqNimberS.calls kj4 _ _ t306 _ _ t294 false _ ?side1 ?side2 ?side3 ?side4 A26.out).mono ?_); (case side1 => repeat (first | exact (Kd.R_reads' HO309.out).2.2 | (with_reducible refine Kd.C_alloc ?_ _) | (with_reducible refine Kd.C_drewN ?_ _) | (with_reducible refine Kd.C_drew ?_))); (case side2 => exact (Kd.R_reads' HO309.out).2.1); (case side3 => repeat (first | exact (Kd.R_reads' HO_5.out).2.2 | (with_reducible refine Kd.C_alloc ?_ _) | (with_reducible refine Kd.C_drewN ?_ _) | (with_reducible refine Kd.C_drew ?_))); (case side4 => exact (Kd.R_reads' HO_5.out).2.1); rintro e w' ⟨rfl, ⟨nd, rfl⟩⟩; refine ⟨_, rfl, ?_⟩))
                go_meet
                case rel => exact ⟨_, (true), (by first | rfl | (simp; done) | (simp [*]; done)), H', ⟨by have := HJ4.out; first | omega | exact Nat.le_refl _⟩, ⟨by (with_reducible repeat (first | apply Kd.R_alloc | apply Kd.R_drewN | apply Kd.R_drew)); exact Kd.R_mono HO_7.out (fun _ hk => trivial)⟩, ⟨by repeat (first | (with_reducible first | exact HB.out | apply below_alloc | apply pw_below_drewN | apply below_drew1) | exact HB.out)⟩⟩
            case rest =>
              clear HC22
              try clear c1
              try clear c2
              try clear p2
              try clear c4
              try clear c9
              try clear c12
              try clear c13
              try clear c14
              try clear c15
              try clear c16
              try clear c17
              try clear c17b0
              try clear c20
              try clear c20b0
              try clear c20b1
              try clear c27
              try clear p2
              obtain ⟨kq, x59_21, rfl, HA, HJ21, HO_7, HB⟩ := hcut
              have hl7_21 := (Kd.R_reads' HO_7.out).1
              rw [hl7_21] at HO_7
              (try simp only [hl7_21])
              cases kq with
              | zero => exact absurd HA.out (by simp [laws_FnExactCoinValues.j1])
              | succ kj21 =>
                have H := HA.out
                clear HA
                simp only [laws_FnExactCoinValues.j1] at H
                by_cases c32 : x59_21 = true
                · subst c32
                  have H1 : (some false) = some r := by rw [if_pos rfl] at H; exact H
                  clear H
                  have H := H1
                  clear H1
                  obtain rfl := Option.some.inj H
                  go_wp2
                  go_ret
                  exact ⟨by first | rfl | (simp [errW_none, errW_some] <;> rfl) | (simp [*, errW_none, errW_some] <;> rfl), by repeat (first | (with_reducible first | exact HB.out | apply below_alloc | apply pw_below_drewN | apply below_drew1) | exact HB.out)⟩
                · replace c32 := Bool.eq_false_iff.mpr c32
                  subst c32
                  have H1 : ((laws_heldNimberS.f kj21 t304 1).bind fun t311 => (if t311 < 0 then (some false) else (if t311 = t303 then (some true) else (some false)))) = some r := by rw [if_neg (show ¬ (false = true) by decide)] at H; exact H
                  clear H
                  have H := H1
                  clear H1
                  replace H := Option.bind_eq_some_iff.mp H
                  obtain ⟨t311, A330, H⟩ := H
                  replace H : (if t311 < 0 then (some false) else (if t311 = t303 then (some true) else (some false))) = some r := H
                  have A33 := Aside0.mk A330
                  clear A330
                  by_cases c34 : t311 < 0
                  · rw [if_pos c34] at H
                    have c34b0 : decide (t311 < 0) = true := decide_eq_true c34
                    clear c34
                    obtain rfl := Option.some.inj H
                    go_wp2_with (first | ((with_reducible refine gate_callee (f := 16) rfl ?_); refine goesL_ (some 62) rfl rfl Tryd.func16 (by kernel_rfl) rfl #[.slice Ao23 t304.length co23, .int .i64 1] rfl (by (try simp only [List.map_toArray, List.map_cons, List.map_nil]); first | done | rfl | (simp only [List.length_drop, List.length_take]; rfl)) ?_; (with_reducible refine (laws_heldNimberS.calls kj21 _ _ t304 1 t311 _ ?side1 ?side2 A33.out).mono ?_); (case side1 => repeat (first | exact (Kd.R_reads' HO_7.out).2.2 | (with_reducible refine Kd.C_alloc ?_ _) | (with_reducible refine Kd.C_drewN ?_ _) | (with_reducible refine Kd.C_drew ?_))); (case side2 => exact (Kd.R_reads' HO_7.out).2.1); rintro e w' ⟨rfl, ⟨nd, rfl⟩⟩; refine ⟨_, rfl, ?_⟩))
                    go_ret
                    exact ⟨by first | rfl | (simp [errW_none, errW_some] <;> rfl) | (simp [*, errW_none, errW_some] <;> rfl), by repeat (first | (with_reducible first | exact HB.out | apply below_alloc | apply pw_below_drewN | apply below_drew1) | exact HB.out)⟩
                  · rw [if_neg c34] at H
                    have c34b0 : decide (t311 < 0) = false := decide_eq_false c34
                    clear c34
                    by_cases c35 : t311 = t303
                    · rw [if_pos c35] at H
                      have c35b0 : (t311 == t303) = true := beq_iff_eq.mpr c35
                      have c35b1 : (t311 != t303) = false := bne_eq_false_iff_eq.mpr c35
                      clear c35
                      obtain rfl := Option.some.inj H
                      go_wp2_with (first | ((with_reducible refine gate_callee (f := 16) rfl ?_); refine goesL_ (some 62) rfl rfl Tryd.func16 (by kernel_rfl) rfl #[.slice Ao23 t304.length co23, .int .i64 1] rfl (by (try simp only [List.map_toArray, List.map_cons, List.map_nil]); first | done | rfl | (simp only [List.length_drop, List.length_take]; rfl)) ?_; (with_reducible refine (laws_heldNimberS.calls kj21 _ _ t304 1 t311 _ ?side1 ?side2 A33.out).mono ?_); (case side1 => repeat (first | exact (Kd.R_reads' HO_7.out).2.2 | (with_reducible refine Kd.C_alloc ?_ _) | (with_reducible refine Kd.C_drewN ?_ _) | (with_reducible refine Kd.C_drew ?_))); (case side2 => exact (Kd.R_reads' HO_7.out).2.1); rintro e w' ⟨rfl, ⟨nd, rfl⟩⟩; refine ⟨_, rfl, ?_⟩))
                      go_ret
                      exact ⟨by first | rfl | (simp [errW_none, errW_some] <;> rfl) | (simp [*, errW_none, errW_some] <;> rfl), by repeat (first | (with_reducible first | exact HB.out | apply below_alloc | apply pw_below_drewN | apply below_drew1) | exact HB.out)⟩
                    · rw [if_neg c35] at H
                      have c35b0 : (t311 == t303) = false := beq_eq_false_iff_ne.mpr c35
                      have c35b1 : (t311 != t303) = true := bne_iff_ne.mpr c35
                      obtain rfl := Option.some.inj H
                      go_wp2_with (first | ((with_reducible refine gate_callee (f := 16) rfl ?_); refine goesL_ (some 62) rfl rfl Tryd.func16 (by kernel_rfl) rfl #[.slice Ao23 t304.length co23, .int .i64 1] rfl (by (try simp only [List.map_toArray, List.map_cons, List.map_nil]); first | done | rfl | (simp only [List.length_drop, List.length_take]; rfl)) ?_; (with_reducible refine (laws_heldNimberS.calls kj21 _ _ t304 1 t311 _ ?side1 ?side2 A33.out).mono ?_); (case side1 => repeat (first | exact (Kd.R_reads' HO_7.out).2.2 | (with_reducible refine Kd.C_alloc ?_ _) | (with_reducible refine Kd.C_drewN ?_ _) | (with_reducible refine Kd.C_drew ?_))); (case side2 => exact (Kd.R_reads' HO_7.out).2.1); rintro e w' ⟨rfl, ⟨nd, rfl⟩⟩; refine ⟨_, rfl, ?_⟩))
                      go_ret
                      exact ⟨by first | rfl | (simp [errW_none, errW_some] <;> rfl) | (simp [*, errW_none, errW_some] <;> rfl), by repeat (first | (with_reducible first | exact HB.out | apply below_alloc | apply pw_below_drewN | apply below_drew1) | exact HB.out)⟩
          · rw [if_neg c20] at H
            have c20b0 : (t305 == t303) = false := beq_eq_false_iff_ne.mpr c20
            have c20b1 : (t305 != t303) = true := bne_iff_ne.mpr c20
            obtain rfl := Option.some.inj H
            obtain ⟨Ao36, co36, eo36⟩ := Kd.R_slice HO_7.out
            subst eo36
            go_wp2_with (first | ((with_reducible refine gate_callee (f := 15) rfl ?_); refine goesL_ (some 36) rfl rfl Tryd.func15 (by kernel_rfl) rfl #[.slice Ao36 t298.length co36, .int .i64 1] rfl (by (try simp only [List.map_toArray, List.map_cons, List.map_nil]); first | done | rfl | (simp only [List.length_drop, List.length_take]; rfl)) ?_; (with_reducible refine (laws_markNimberS.calls kj4 (fun k_ => some k_ = (.slice Ao36 t298.length co36 : Value).ownBlock) (.slice Ao36 t298.length co36) t298 1 t303 t304 w _ ?side1 ?side2 A15.out).mono ?_); (case side1 => repeat (first | (with_reducible first | exact HB.out | apply below_alloc | apply pw_below_drewN | apply below_drew1) | exact HB.out)); (case side2 => exact Kd.R_tight rfl HO_7.out); rintro e w37 ⟨rfl, hy0, hb, hkp⟩; refine ⟨_, rfl, ?_⟩; have n0_ := Aside0.mk (Kd.R_mono (ok' := fun k_ => some k_ ≠ (.slice Ao36 t298.length co36 : Value).ownBlock) (Kd.R_keptB (HO_5.out) hkp (fun k_ hk_ hs_ => (hk_) hs_)) (fun k_ hk_ => hk_.1)); have n1_ := Aside0.mk (Kd.R_reok rfl hy0 (fun k_ e_ => HO_7.out.1 k_ e_)); have n2_ := Aside0.mk (hb); clear HO_5; clear HO_7; clear HB; have HO_5 := n0_; have HO_7 := n1_; have HB := n2_; clear n0_ n1_ n2_; (try clear hb); (try clear hkp); (try clear hy0)) | ((with_reducible refine gate_callee (f := 16) rfl ?_); refine goesL_ (some 39) rfl rfl Tryd.func16 (by kernel_rfl) rfl #[.slice Ao36 t304.length co36, .int .i64 1] rfl (by (try simp only [List.map_toArray, List.map_cons, List.map_nil]); first | done | (rw [show t304.length = t298.length from (Kd.R_reads' HO_7.out).1.symm] <;> rfl) | rfl | (simp only [List.length_drop, List.length_take]; rfl)) ?_; (with_reducible refine (laws_heldNimberS.calls kj4 _ _ t304 1 t305 _ ?side1 ?side2 A16.out).mono ?_); (case side1 => repeat (first | exact (Kd.R_reads' HO_7.out).2.2 | (with_reducible refine Kd.C_alloc ?_ _) | (with_reducible refine Kd.C_drewN ?_ _) | (with_reducible refine Kd.C_drew ?_))); (case side2 => rw [show t304.length = t298.length from (Kd.R_reads' HO_7.out).1.symm]; exact (Kd.R_reads' HO_7.out).2.1); rintro e w' ⟨rfl, ⟨nd, rfl⟩⟩; refine ⟨_, rfl, ?_⟩))
            go_ret
            exact ⟨by first | rfl | (simp [errW_none, errW_some] <;> rfl) | (simp [*, errW_none, errW_some] <;> rfl), by repeat (first | (with_reducible first | exact HB.out | apply below_alloc | apply pw_below_drewN | apply below_drew1) | exact HB.out)⟩

/-- THE ONE PURE STATEMENT of laws_FnExactCoinValues: yours. -/
def laws_FnExactCoinValues.Pure : Prop := ∀ (a0 : Int) (a1 : Int), (Lit.int .i64 a0).wf = true → (Lit.int .i64 a1).wf = true → ∃ k, laws_FnExactCoinValues.f k a0 a1 = some true
theorem laws_FnExactCoinValues.walk (P : laws_FnExactCoinValues.Pure) (a0 : Int) (a1 : Int) (w : World) (hLaid32_ : Laid32 w) (w0 : (Lit.int .i64 a0).wf = true) (w1 : (Lit.int .i64 a1).wf = true) :
    Calls Tryd.prog 4 #[.int .i64 a0, .int .i64 a1] w fun e w' => e = .returned (.bool true) ∧ Below w.heap.size w w' := by
  obtain ⟨k, h⟩ := P a0 a1 w0 w1
  refine (laws_FnExactCoinValues.calls k a0 a1 true w hLaid32_ h).mono ?_
  rintro e w' ⟨rfl, hd⟩
  exact ⟨rfl, hd⟩

end Go.Proofs.YtnicjjnghclgpaaDoor.QFnExactCoinValues
