/- Written by the session's own program (wip/myprint.py), for the law FnPlaces: each function as a plain Lean function, and its contract. -/
import Derived.Test.YtojjakjpdkpmiaaGreatDoorQFnPlacesx0
import Derived.Test.YtojjakjpdkpmiaaGreatDoorQFnPlacesx2
import Derived.Test.YtojjakjpdkpmiaaGreatDoorQFnPlacesx3
namespace Go.Proofs.YtojjakjpdkpmiaaGreatDoor.QFnPlaces
open Go.RowKit Go.Proofs.YtojjakjpdkpmiaaGreatDoorW.PrintWords Go.Proofs.YtojjakjpdkpmiaaGreatDoorW.PrintLast Go.Proofs.YtojjakjpdkpmiaaGreatDoorW.PrintMore
attribute [local go_sem] max2_int min2_int max_two min_two max_three min_three max_four min_four   -- for this text's walks alone
set_option linter.unusedVariables false
set_option linter.unusedSimpArgs false

/-! ### impl_SameGame: function 14 -/
theorem sg_at {w : World} {A : Option Addr} {xs : List (List Int)} (h : Kd.C (Kd.slice 66 (Kd.int .i8)) w A xs.length xs) (j : Nat) (hj : j < xs.length) : ∃ ad A0 c0, A = some ad ∧ w.cell? (ad.add j) = some (.slice A0 (xs[j]).length c0) ∧ (xs[j]).length ≤ c0 ∧ (Kd.int .i8).C w A0 (xs[j]).length (xs[j]) := by
  obtain ⟨ad, c, e, _, hK, hc0⟩ := Kd.C_get h ([] : List Int) (j : Int) (by omega) (by omega)
  have hg : xs.getD ((j : Int)).toNat [] = xs[j] := by simp [List.getD_eq_getElem?_getD, List.getElem?_eq_getElem hj]
  rw [hg] at hK
  obtain ⟨A0, c0, rfl, l0, g0⟩ := hK
  refine ⟨ad, A0, c0, e, ?_, l0, g0⟩
  have hq := hc0 0 _ rfl
  have hs : ((j : Int)).toNat * (Kd.slice 66 (Kd.int .i8)).sz + 0 = j := by show j * 1 + 0 = j; omega
  rwa [hs] at hq
theorem sg_int {w : World} {A : Option Addr} {xs : List Int} (h : Kd.C (Kd.int .i8) w A xs.length xs) (j : Nat) (hj : j < xs.length) : ∃ ad, A = some ad ∧ w.cell? (ad.add j) = some (.int .i8 xs[j]) := by
  obtain ⟨ad, e, hc⟩ := Kd.at_int h (j : Int) (by omega) (by omega)
  refine ⟨ad, e, ?_⟩
  have hg : rd xs (j : Int) = xs[j] := by simp [rd, List.getD_eq_getElem?_getD, List.getElem?_eq_getElem hj]
  rw [hg] at hc
  exact hc
theorem sg_more {α : Type} {a b : List α} (n : Nat) (ha : n < a.length) (hb : n < b.length) (h : a.take n = b.take n) (he : a[n] = b[n]) : a.take (n + 1) = b.take (n + 1) := by
  rw [List.take_succ_eq_append_getElem ha, List.take_succ_eq_append_getElem hb, h, he]
theorem sg_ne {α : Type} {a b : List α} (n : Nat) (ha : n < a.length) (hb : n < b.length) (he : ¬ a[n] = b[n]) : ¬ a = b := by
  intro e
  subst e
  exact he rfl
theorem sg_end {α : Type} {a b : List α} (h : a.take a.length = b.take a.length) (hl : a.length = b.length) : a = b := by
  rw [List.take_length, hl, List.take_length] at h
  exact h
theorem sg_len {α : Type} {a b : List α} (hl : ¬ a.length = b.length) : ¬ a = b := fun e => hl (by rw [e])
set_option maxHeartbeats 400000 in
set_option maxRecDepth 100000 in
theorem sg_equal (A0 : Option Addr) (c0 : Nat) (l0 : List Int) (A1 : Option Addr) (c1 : Nat) (l1 : List Int) (w : World) (hr0 : Kd.C (Kd.int .i8) w A0 l0.length l0) (hr1 : Kd.C (Kd.int .i8) w A1 l1.length l1) :
    Calls Tryz.prog 37 #[.slice A0 l0.length c0, .slice A1 l1.length c1] w fun e w' => e = .returned (.bool (decide (l0 = l1))) ∧ Drawn0 w w' := by
  have HR0 := Aside0.mk hr0
  have HR1 := Aside0.mk hr1
  clear hr0 hr1
  have hm := HR0.out.2.1
  have hm1 := HR1.out.2.1
  by_cases hl : l0.length = l1.length
  · have hli : ((l0.length : Int) != (l1.length : Int)) = false := by simp [hl]
    have HL := Aside0.mk hl
    clear hl
    go_enter Tryz.func37, Tryz.ntmps37
    go_wp2_with fail
    go_loopw [13] (fun i w' => ∃ n : Nat, n ≤ l0.length ∧ i = .int .i64 n ∧ Aside0 (l0.take n = l1.take n) ∧ Drawn0 w w') (fun i w' => l0.length - (intOf i).toNat)
    case atStart => exact ⟨0, Nat.zero_le _, rfl, ⟨rfl⟩, Drawn0.refl _⟩
    case round =>
      obtain ⟨n, hn, rfl, HA, ⟨m1, rfl⟩⟩ := hrel
      by_cases hlt : n < l0.length
      · have hlt1 : n < l1.length := by have := HL.out; omega
        obtain ⟨ad, rfl, hcell⟩ := sg_int HR0.out n hlt
        obtain ⟨ad1, rfl, hcell1⟩ := sg_int HR1.out n hlt1
        by_cases he : l0[n] = l1[n]
        · have heb : (l0[n] != l1[n]) = false := bne_eq_false_iff_eq.mpr he
          have hA := Aside0.mk (sg_more n hlt hlt1 HA.out he)
          clear he
          go_wp2
          repeat (go_quiet (fail); try go_wp2)
          exact ⟨⟨n + 1, by omega, by go_num, hA, ⟨_, rfl⟩⟩, by simp [intOf]; omega⟩
        · have heb : (l0[n] != l1[n]) = true := bne_iff_ne.mpr he
          have hA := Aside0.mk (sg_ne n hlt hlt1 he)
          clear he
          go_wp2
          repeat (go_quiet (fail); try go_wp2)
          go_ret
          exact ⟨by rw [decide_eq_false hA.out]; rfl, by first | exact Drawn0.refl _ | exact ⟨_, rfl⟩ | exact ⟨_, World.drewN_drewN _ _ _⟩ | exact ⟨_, (World.drewN_drewN _ _ _).symm⟩ | ((repeat (first | exact Drawn0.refl _ | apply Drawn0.step)); done)⟩
      · obtain rfl : n = l0.length := by omega
        have hA := Aside0.mk (sg_end HA.out HL.out)
        clear HA
        go_wp2
        repeat (go_quiet (fail); try go_wp2)
        go_ret
        exact ⟨by rw [decide_eq_true hA.out]; rfl, by first | exact Drawn0.refl _ | exact ⟨_, rfl⟩ | exact ⟨_, World.drewN_drewN _ _ _⟩ | exact ⟨_, (World.drewN_drewN _ _ _).symm⟩ | ((repeat (first | exact Drawn0.refl _ | apply Drawn0.step)); done)⟩
  · have hA := Aside0.mk (sg_len hl)
    have hli : ((l0.length : Int) != (l1.length : Int)) = true := bne_iff_ne.mpr (by omega)
    go_enter Tryz.func37, Tryz.ntmps37
    go_wp2_with fail
    go_ret
    exact ⟨by rw [decide_eq_false hA.out]; rfl, by first | exact Drawn0.refl _ | exact ⟨_, rfl⟩ | exact ⟨_, World.drewN_drewN _ _ _⟩ | exact ⟨_, (World.drewN_drewN _ _ _).symm⟩ | ((repeat (first | exact Drawn0.refl _ | apply Drawn0.step)); done)⟩
set_option maxHeartbeats 400000 in
set_option maxRecDepth 100000 in
theorem sg_lit (A0 : Option Addr) (c0 : Nat) (l0 : List Int) (A1 : Option Addr) (c1 : Nat) (l1 : List Int) (w : World) (hr0 : Kd.C (Kd.int .i8) w A0 l0.length l0) (hr1 : Kd.C (Kd.int .i8) w A1 l1.length l1) :
    Calls Tryz.prog 36 #[.slice A0 l0.length c0, .slice A1 l1.length c1] w fun e w' => e = .returned (.bool (decide (l0 = l1))) ∧ Drawn0 w w' := by
  have HR0 := Aside0.mk hr0
  have HR1 := Aside0.mk hr1
  clear hr0 hr1
  go_enter Tryz.func36, Tryz.ntmps36
  go_wp2_with (go_at_call 37; refine (sg_equal A0 c0 l0 A1 c1 l1 _ HR0.out HR1.out).mono ?_; rintro e w' ⟨rfl, ⟨m, rfl⟩⟩)
  go_ret
  exact ⟨rfl, ⟨m, rfl⟩⟩
set_option maxHeartbeats 400000 in
set_option maxRecDepth 100000 in
theorem sg_func (A0 : Option Addr) (c0 : Nat) (l0 : List (List Int)) (A1 : Option Addr) (c1 : Nat) (l1 : List (List Int)) (w : World) (hr0 : Kd.C (Kd.slice 66 (Kd.int .i8)) w A0 l0.length l0) (hr1 : Kd.C (Kd.slice 66 (Kd.int .i8)) w A1 l1.length l1) :
    Calls Tryz.prog 35 #[.slice A0 l0.length c0, .slice A1 l1.length c1, .func (.func 36) #[] #[]] w fun e w' => e = .returned (.bool (decide (l0 = l1))) ∧ Drawn0 w w' := by
  have HR0 := Aside0.mk hr0
  have HR1 := Aside0.mk hr1
  clear hr0 hr1
  have hm := HR0.out.2.1
  have hm1 := HR1.out.2.1
  by_cases hl : l0.length = l1.length
  · have hli : ((l0.length : Int) != (l1.length : Int)) = false := by simp [hl]
    have HL := Aside0.mk hl
    clear hl
    go_enter Tryz.func35, Tryz.ntmps35
    go_wp2_with fail
    go_loopw [17] (fun i w' => ∃ n : Nat, n ≤ l0.length ∧ i = .int .i64 n ∧ Aside0 (l0.take n = l1.take n) ∧ Drawn0 w w') (fun i w' => l0.length - (intOf i).toNat)
    case atStart => exact ⟨0, Nat.zero_le _, rfl, ⟨rfl⟩, Drawn0.refl _⟩
    case round =>
      obtain ⟨n, hn, rfl, HA, ⟨m1, rfl⟩⟩ := hrel
      by_cases hlt : n < l0.length
      · have hlt1 : n < l1.length := by have := HL.out; omega
        obtain ⟨ad, B0, d0, rfl, hcell, hb0, hi0⟩ := sg_at HR0.out n hlt
        obtain ⟨ad1, B1, d1, rfl, hcell1, hb1, hi1⟩ := sg_at HR1.out n hlt1
        have HI0 := Aside0.mk hi0
        have HI1 := Aside0.mk hi1
        clear hi0 hi1 hb0 hb1
        by_cases he : l0[n] = l1[n]
        · have hA := Aside0.mk (sg_more n hlt hlt1 HA.out he)
          have hd := Aside0.mk (decide_eq_true he)
          clear he
          go_wp2_with (go_at_call 36; refine (sg_lit B0 d0 _ B1 d1 _ _ (Kd.C_drewN HI0.out _) (Kd.C_drewN HI1.out _)).mono ?_; rw [hd.out]; rintro e w' ⟨rfl, ⟨m2, rfl⟩⟩)
          exact ⟨⟨n + 1, by omega, by go_num, hA, by first | exact Drawn0.refl _ | exact ⟨_, rfl⟩ | exact ⟨_, World.drewN_drewN _ _ _⟩ | exact ⟨_, (World.drewN_drewN _ _ _).symm⟩ | ((repeat (first | exact Drawn0.refl _ | apply Drawn0.step)); done)⟩, by simp [intOf]; omega⟩
        · have hA := Aside0.mk (sg_ne n hlt hlt1 he)
          have hd := Aside0.mk (decide_eq_false he)
          clear he
          go_wp2_with (go_at_call 36; refine (sg_lit B0 d0 _ B1 d1 _ _ (Kd.C_drewN HI0.out _) (Kd.C_drewN HI1.out _)).mono ?_; rw [hd.out]; rintro e w' ⟨rfl, ⟨m2, rfl⟩⟩)
          go_ret
          exact ⟨by rw [decide_eq_false hA.out]; rfl, by first | exact Drawn0.refl _ | exact ⟨_, rfl⟩ | exact ⟨_, World.drewN_drewN _ _ _⟩ | exact ⟨_, (World.drewN_drewN _ _ _).symm⟩ | ((repeat (first | exact Drawn0.refl _ | apply Drawn0.step)); done)⟩
      · obtain rfl : n = l0.length := by omega
        have hA := Aside0.mk (sg_end HA.out HL.out)
        clear HA
        go_wp2
        repeat (go_quiet (fail); try go_wp2)
        go_ret
        exact ⟨by rw [decide_eq_true hA.out]; rfl, by first | exact Drawn0.refl _ | exact ⟨_, rfl⟩ | exact ⟨_, World.drewN_drewN _ _ _⟩ | exact ⟨_, (World.drewN_drewN _ _ _).symm⟩ | ((repeat (first | exact Drawn0.refl _ | apply Drawn0.step)); done)⟩
  · have hA := Aside0.mk (sg_len hl)
    have hli : ((l0.length : Int) != (l1.length : Int)) = true := bne_iff_ne.mpr (by omega)
    go_enter Tryz.func35, Tryz.ntmps35
    go_wp2_with fail
    go_ret
    exact ⟨by rw [decide_eq_false hA.out]; rfl, by first | exact Drawn0.refl _ | exact ⟨_, rfl⟩ | exact ⟨_, World.drewN_drewN _ _ _⟩ | exact ⟨_, (World.drewN_drewN _ _ _).symm⟩ | ((repeat (first | exact Drawn0.refl _ | apply Drawn0.step)); done)⟩
/-- What SameGame tells. -/
def impl_SameGame.f (l0 : List (List Int)) (l1 : List (List Int)) : Option (Bool) := some (decide (l0 = l1))
set_option maxHeartbeats 400000 in
set_option maxRecDepth 100000 in
theorem impl_SameGame.calls (A0 : Option Addr) (c0 : Nat) (l0 : List (List Int)) (A1 : Option Addr) (c1 : Nat) (l1 : List (List Int)) (r : Bool) (w : World) (hr0 : Kd.C (Kd.slice 66 (Kd.int .i8)) w A0 l0.length l0) (hc0 : l0.length ≤ c0) (hr1 : Kd.C (Kd.slice 66 (Kd.int .i8)) w A1 l1.length l1) (hc1 : l1.length ≤ c1) (h : impl_SameGame.f l0 l1 = some r) :
    Calls Tryz.prog 14 #[.slice A0 l0.length c0, .slice A1 l1.length c1] w fun e w' => e = .returned (.bool r) ∧ Drawn0 w w' := by
  obtain rfl := Option.some.inj h
  have HR0 := Aside0.mk hr0
  have HR1 := Aside0.mk hr1
  clear hr0 hr1 h
  go_enter Tryz.func14, Tryz.ntmps14
  go_wp2_with (go_at_call 35; refine (sg_func A0 c0 l0 A1 c1 l1 _ HR0.out HR1.out).mono ?_; rintro e w' ⟨rfl, ⟨m, rfl⟩⟩)
  go_ret
  exact ⟨rfl, ⟨m, rfl⟩⟩

/-! ### spec_P6Pick: function 16 -/
def spec_P6Pick.f (l0 : List Int) (a1 : Int) : Option (Int) := (spec_l00From.f l0).bind fun bt291 => ((spec_l00Src_pick.f bt291.1 bt291.2.1 bt291.2.2 a1).bind fun bt295 => (some bt295.1))
set_option maxHeartbeats 8000000 in
set_option maxRecDepth 100000 in
theorem spec_P6Pick.calls (A0 : Option Addr) (c0 : Nat) (l0 : List Int) (a1 : Int) (r : Int) (w : World) (hr0 : Kd.C (Kd.int .u8) w A0 l0.length l0) (hc0 : l0.length ≤ c0) (h : spec_P6Pick.f l0 a1 = some r) :
    Calls Tryz.prog 16 #[.slice A0 l0.length c0, .int .i64 a1] w fun e w' => e = .returned (.int .i64 r) ∧ Below w.heap.size w w' := by
  have HR0 := Aside0.mk hr0
  have HC0 := Aside0.mk hc0
  clear hr0 hc0
  have HB := Aside0.mk (Below.refl w.heap.size w)
  have H : ((spec_l00From.f l0).bind fun bt291 => ((spec_l00Src_pick.f bt291.1 bt291.2.1 bt291.2.2 a1).bind fun bt295 => (some bt295.1))) = some r := h
  clear h
  replace H := Option.bind_eq_some_iff.mp H
  obtain ⟨⟨t291, t292, t293⟩, A30, H⟩ := H
  replace H : ((spec_l00Src_pick.f t291 t292 t293 a1).bind fun bt295 => (some bt295.1)) = some r := H
  have A3 := Aside0.mk A30
  clear A30
  replace H := Option.bind_eq_some_iff.mp H
  obtain ⟨⟨t295, t296, t297⟩, A40, H⟩ := H
  replace H : (some t295) = some r := H
  have A4 := Aside0.mk A40
  clear A40
  obtain rfl := Option.some.inj H
  go_enter Tryz.func16, Tryz.ntmps16
  go_wp2_with (first | ((with_reducible refine gate_callee (f := 26) rfl ?_); refine goesL_ (some 6) rfl rfl Tryz.func26 (by kernel_rfl) rfl #[.slice A0 l0.length c0] rfl (by (try simp only [List.map_toArray, List.map_cons, List.map_nil]); first | done | rfl | (simp only [List.length_drop, List.length_take]; rfl)) ?_; (with_reducible refine (spec_l00From.calls _ _ l0 t291 t292 t293 w _ ?side1 ?side2 ?side3 A3.out).mono ?_); (case side1 => repeat (first | (with_reducible first | exact HB.out | apply below_alloc | apply pw_below_drewN | apply below_drew1) | exact HB.out)); (case side2 => exact HR0.out); (case side3 => exact HC0.out); rintro e w5 ⟨g294, rfl, hi, hb, hb2⟩; refine ⟨_, rfl, ?_⟩; have n0_ := Aside0.mk (hb); have n1_ := Aside0.mk (hi); clear HB; have HB := n0_; have HI294 := n1_; clear n0_ n1_; (try clear hb); (try clear hb2); (try clear hk); (try clear hi)) | ((with_reducible refine gate_callee (f := 39) rfl ?_); refine goesL_ (some 8) rfl rfl Tryz.func39 (by kernel_rfl) rfl #[.pointer (some ⟨g294, 0, none⟩), .int .i64 a1] rfl (by (try simp only [List.map_toArray, List.map_cons, List.map_nil]); first | done | rfl | (simp only [List.length_drop, List.length_take]; rfl)) ?_; (with_reducible refine (spec_l00Src_pick.calls g294 t291 t292 t293 a1 t295 t296 t297 w _ ?side1 ?side2 A4.out).mono ?_); (case side1 => repeat (first | (with_reducible first | exact HI294.out | apply IsS79.alloc | apply IsS79.drewN | apply IsS79.drew | apply IsS79.set_1 | apply IsS79.set_2) | exact HI294.out)); (case side2 => repeat (first | (with_reducible first | exact HB.out | apply below_alloc | apply pw_below_drewN | apply below_drew1 | refine below_set ?_ (IsS79.ge HI294.out)) | exact HB.out)); rintro e w6 ⟨rfl, hi, hb, hk⟩; refine ⟨_, rfl, ?_⟩; have n0_ := Aside0.mk (hb); have n1_ := Aside0.mk (hi); clear HB; clear HI294; have HB := n0_; have HI294 := n1_; clear n0_ n1_; (try clear hb); (try clear hb2); (try clear hk); (try clear hi)))
  go_ret
  exact ⟨by first | rfl | (simp [errW_none, errW_some] <;> rfl) | (simp [*, errW_none, errW_some] <;> rfl), by repeat (first | (with_reducible first | exact HB.out | apply below_alloc | apply pw_below_drewN | apply below_drew1 | refine below_set ?_ (IsS79.ge HI294.out)) | exact HB.out)⟩

/-! ### spec_P6Places: function 17 -/
def spec_P6Places.l0 : Nat → List (List Int) → List Int → Int → List Int → Int → Int → Option (List Int)
  | 0, _, _, _, _, _, _ => none
  | k + 1, x1, x6, x7, x302000, x302001, x302002 => if x7 > 0 then ((spec_l00Src_pick.f x302000 x302001 x302002 (x1.length : Int)).bind fun bt308 => (if x6.length < 17592186044416 then (spec_P6Places.l0 k x1 (x6 ++ [bt308.1]) (wrap64 (x7 - 1)) x302000 bt308.2.1 bt308.2.2) else (none))) else (some x6)
def spec_P6Places.f (k : Nat) (l0 : List Int) (l1 : List (List Int)) : Option (List Int) := (spec_l00From.f l0).bind fun bt298 => ((spec_l00Src_pick.f bt298.1 bt298.2.1 bt298.2.2 5).bind fun bt305 => (spec_P6Places.l0 k l1 (([] : List Int)) bt305.1 bt298.1 bt305.2.1 bt305.2.2))
theorem spec_P6Places.mono_l : ∀ k, (∀ y0 y1 y2 y3 y4 y5, LeO (spec_P6Places.l0 k y0 y1 y2 y3 y4 y5) (spec_P6Places.l0 (k + 1) y0 y1 y2 y3 y4 y5))
  | 0 => fun _ _ _ _ _ _ r h => by simp [spec_P6Places.l0] at h
  | k + 1 => by
    have ih0 := spec_P6Places.mono_l k
    · intro y0 y1 y2 y3 y4 y5
      unfold spec_P6Places.l0
      repeat' first
      | (with_reducible exact ih0 _ _ _ _ _ _)
      | (with_reducible exact LeO.refl _)
      | (with_reducible exact LeO.none _)
      | (with_reducible refine LeO.ite ?_ ?_)
      | (with_reducible refine LeO.bind ?_ (fun _ => ?_))
      | exact ih0 _ _ _ _ _ _
      | exact LeO.none _
      | refine LeO.ite ?_ ?_
      | refine LeO.bind ?_ (fun _ => ?_)
theorem spec_P6Places.mono : ∀ a0 a1 k, LeO (spec_P6Places.f k a0 a1) (spec_P6Places.f (k + 1) a0 a1) := by
  intro a0 a1 k
  have ih0 := spec_P6Places.mono_l k
  unfold spec_P6Places.f
  repeat' first
      | (with_reducible exact ih0 _ _ _ _ _ _)
      | (with_reducible exact LeO.refl _)
      | (with_reducible exact LeO.none _)
      | (with_reducible refine LeO.ite ?_ ?_)
      | (with_reducible refine LeO.bind ?_ (fun _ => ?_))
      | exact ih0 _ _ _ _ _ _
      | exact LeO.none _
      | refine LeO.ite ?_ ?_
      | refine LeO.bind ?_ (fun _ => ?_)
set_option maxHeartbeats 8000000 in
set_option maxRecDepth 100000 in
theorem spec_P6Places.calls (k : Nat) (A0 : Option Addr) (c0 : Nat) (l0 : List Int) (A1 : Option Addr) (c1 : Nat) (l1 : List (List Int)) (r : List Int) (w : World) (hr0 : Kd.C (Kd.int .u8) w A0 l0.length l0) (hc0 : l0.length ≤ c0) (hr1 : Kd.C (Kd.slice 66 (Kd.int .i8)) w A1 l1.length l1) (hc1 : l1.length ≤ c1) (h : spec_P6Places.f k l0 l1 = some r) :
    Calls Tryz.prog 17 #[.slice A0 l0.length c0, .slice A1 l1.length c1] w fun e w' => ∃ v0_ : Value, e = .returned (v0_) ∧ Kd.R (Kd.int .i64) 2 w' w.heap.size (fun _ => True) v0_ r ∧ Below w.heap.size w w' := by
  have HR0 := Aside0.mk hr0
  have HC0 := Aside0.mk hc0
  clear hr0 hc0
  have HR1 := Aside0.mk hr1
  have HC1 := Aside0.mk hc1
  clear hr1 hc1
  have HB := Aside0.mk (Below.refl w.heap.size w)
  have H : ((spec_l00From.f l0).bind fun bt298 => ((spec_l00Src_pick.f bt298.1 bt298.2.1 bt298.2.2 5).bind fun bt305 => (spec_P6Places.l0 k l1 (([] : List Int)) bt305.1 bt298.1 bt305.2.1 bt305.2.2))) = some r := h
  clear h
  replace H := Option.bind_eq_some_iff.mp H
  obtain ⟨⟨t298, t299, t300⟩, A30, H⟩ := H
  replace H : ((spec_l00Src_pick.f t298 t299 t300 5).bind fun bt305 => (spec_P6Places.l0 k l1 (([] : List Int)) bt305.1 t298 bt305.2.1 bt305.2.2)) = some r := H
  have A3 := Aside0.mk A30
  clear A30
  obtain ⟨y302, hy302⟩ : ∃ y_ : List Int, y_ = (([] : List Int)) := ⟨_, rfl⟩
  replace H : ((spec_l00Src_pick.f t298 t299 t300 5).bind fun bt305 => (spec_P6Places.l0 k l1 y302 bt305.1 t298 bt305.2.1 bt305.2.2)) = some r := by first | (rw [hy302]; with_reducible exact H) | (have H2_ := (Option.bind_some _ _).symm.trans H; rw [hy302]; with_reducible exact H2_) | (have H2_ := (Option.bind_some _ _).symm.trans H; with_reducible exact H2_) | with_reducible exact H | (rw [hy302]; exact H) | exact H
  have Ny302 := Aside0.mk hy302
  clear hy302
  replace H := Option.bind_eq_some_iff.mp H
  obtain ⟨⟨t305, t306, t307⟩, A40, H⟩ := H
  replace H : (spec_P6Places.l0 k l1 y302 t305 t298 t306 t307) = some r := H
  have A4 := Aside0.mk A40
  clear A40
  have H' := Aside0.mk H
  clear H
  go_enter Tryz.func17, Tryz.ntmps17
  go_wp2_with (first | ((with_reducible refine gate_callee (f := 26) rfl ?_); refine goesL_ (some 9) rfl rfl Tryz.func26 (by kernel_rfl) rfl #[.slice A0 l0.length c0] rfl (by (try simp only [List.map_toArray, List.map_cons, List.map_nil]); first | done | rfl | (simp only [List.length_drop, List.length_take]; rfl)) ?_; (with_reducible refine (spec_l00From.calls _ _ l0 t298 t299 t300 w _ ?side1 ?side2 ?side3 A3.out).mono ?_); (case side1 => repeat (first | (with_reducible first | exact HB.out | apply below_alloc | apply pw_below_drewN | apply below_drew1) | exact HB.out)); (case side2 => exact HR0.out); (case side3 => exact HC0.out); rintro e w5 ⟨g301, rfl, hi, hb, hb2⟩; refine ⟨_, rfl, ?_⟩; have n0_ := Aside0.mk (hb); have n1_ := Aside0.mk (hi); clear HB; have HB := n0_; have HI301 := n1_; clear n0_ n1_; (try clear hb); (try clear hb2); (try clear hk); (try clear hi)) | ((with_reducible refine gate_dst (N := 10) rfl ?_); refine Kd.R_lit (Kd.int .i64) _ 2 ?hg (N := 10) ?hd (xs := ([] : List Int)) (inner := []) (ok := fun _ => True) (okp := fun _ => True) ?hr ?hp (fun _ hk => hk) trivial (Below.refl _ _) (Nat.le_refl _) (by simp) ?_; (case hd => rfl); (case hg => rfl); (case hr => first | (go_simp; done) | (go_simp; rfl)); (case hp => exact (Reps.none _ _)); intro v303 w6 ho7 hb hg_ hnew_; clear hg_ hnew_; (first | rw [← Ny302.out] at ho7 | (simp only [Int.reduceToNat] at ho7; rw [← Ny302.out] at ho7)); have n0_ := Aside0.mk (Kd.R_lower ho7 (below_size (by repeat (first | (with_reducible first | exact HB.out | apply below_alloc | apply pw_below_drewN | apply below_drew1 | refine below_set ?_ (IsS79.ge HI301.out)) | exact HB.out)))); have n1_ := Aside0.mk (IsS79.below (by repeat (first | (with_reducible first | exact HI301.out | apply IsS79.alloc | apply IsS79.drewN | apply IsS79.drew | apply IsS79.set_1 | apply IsS79.set_2) | exact HI301.out)) hb); have n2_ := Aside0.mk (below_step (by repeat (first | (with_reducible first | exact HB.out | apply below_alloc | apply pw_below_drewN | apply below_drew1 | refine below_set ?_ (IsS79.ge HI301.out)) | exact HB.out)) hb); clear HI301; clear HB; have HO304 := n0_; have HI301 := n1_; have HB := n2_; clear n0_ n1_ n2_; clear hb ho7) | ((with_reducible refine gate_callee (f := 39) rfl ?_); refine goesL_ (some 12) rfl rfl Tryz.func39 (by kernel_rfl) rfl #[.pointer (some ⟨g301, 0, none⟩), .int .i64 5] rfl (by (try simp only [List.map_toArray, List.map_cons, List.map_nil]); first | done | rfl | (simp only [List.length_drop, List.length_take]; rfl)) ?_; (with_reducible refine (spec_l00Src_pick.calls g301 t298 t299 t300 5 t305 t306 t307 w _ ?side1 ?side2 A4.out).mono ?_); (case side1 => repeat (first | (with_reducible first | exact HI301.out | apply IsS79.alloc | apply IsS79.drewN | apply IsS79.drew | apply IsS79.set_1 | apply IsS79.set_2) | exact HI301.out)); (case side2 => repeat (first | (with_reducible first | exact HB.out | apply below_alloc | apply pw_below_drewN | apply below_drew1 | refine below_set ?_ (IsS79.ge HI301.out)) | exact HB.out)); rintro e w8 ⟨rfl, hi, hb, hk⟩; refine ⟨_, rfl, ?_⟩; have n0_ := Aside0.mk (Kd.R_mono (Kd.R_keep (IsS79.apart (show IsS79 w _ g301 t298 t299 t300 from by repeat (first | (with_reducible first | exact HI301.out | apply IsS79.alloc | apply IsS79.drewN | apply IsS79.drew | apply IsS79.set_1 | apply IsS79.set_2) | exact HI301.out)) (by (with_reducible repeat (first | apply Kd.R_alloc | apply Kd.R_drewN | apply Kd.R_drew)); exact HO304.out) (by decide)) hk (fun _ h => h.2)) (fun _ h => h.1)); have n1_ := Aside0.mk (hb); have n2_ := Aside0.mk (hi); clear HO304; clear HB; clear HI301; have HO304 := n0_; have HB := n1_; have HI301 := n2_; clear n0_ n1_ n2_; (try clear hb); (try clear hb2); (try clear hk); (try clear hi)))
  go_loopg [6, 7] k (fun kq v6 v7 w' => ∃ (x6_1 : List Int) (x7_1 : Int) (x302001_1 : Int) (x302002_1 : Int), v7 = .int .i64 x7_1 ∧ Aside0 (spec_P6Places.l0 kq l1 x6_1 x7_1 t298 x302001_1 x302002_1 = some r) ∧ Aside0 (kq ≤ k) ∧ Aside0 (Kd.R (Kd.int .i64) 2 w' w.heap.size (fun _ => True) v6 x6_1) ∧ Aside0 (IsS79 w w' g301 t298 x302001_1 x302002_1) ∧ Aside0 (Below w.heap.size w w'))
  case atStart => exact ⟨(y302), (t305), (t306), (t307), (by first | rfl | (simp; done) | (simp [*]; done)), H', ⟨Nat.le_refl _⟩, ⟨by (with_reducible repeat (first | apply Kd.R_alloc | apply Kd.R_drewN | apply Kd.R_drew)); exact HO304.out⟩, ⟨by repeat (first | (with_reducible first | exact HI301.out | apply IsS79.alloc | apply IsS79.drewN | apply IsS79.drew | apply IsS79.set_1 | apply IsS79.set_2) | exact HI301.out)⟩, ⟨by repeat (first | (with_reducible first | exact HB.out | apply below_alloc | apply pw_below_drewN | apply below_drew1 | refine below_set ?_ (IsS79.ge HI301.out)) | exact HB.out)⟩⟩
  case round =>
    clear H'
    try clear c1
    try clear c2
    try clear p2
    try clear c3
    obtain ⟨x6_1, x7_1, x302001_1, x302002_1, rfl, HA, HK1, HO_6, HI301, HB⟩ := hrel
    cases gk with
    | zero => exact absurd HA.out (by simp [spec_P6Places.l0])
    | succ k1 =>
      have H := HA.out
      clear HA
      simp only [spec_P6Places.l0] at H
      by_cases c9 : x7_1 > 0
      · rw [if_pos c9] at H
        have c9b0 : decide (0 < x7_1) = true := decide_eq_true c9
        clear c9
        replace H := Option.bind_eq_some_iff.mp H
        obtain ⟨⟨t308, t309, t310⟩, A100, H⟩ := H
        replace H : (if x6_1.length < 17592186044416 then (spec_P6Places.l0 k1 l1 (x6_1 ++ [t308]) (wrap64 (x7_1 - 1)) t298 t309 t310) else (none)) = some r := H
        have A10 := Aside0.mk A100
        clear A100
        by_cases c11 : x6_1.length < 17592186044416
        · rw [if_pos c11] at H
          have LMc11 := Aside0.mk c11
          clear c11
          obtain ⟨y311, hy311⟩ : ∃ y_ : List Int, y_ = (x6_1 ++ [t308]) := ⟨_, rfl⟩
          replace H : (spec_P6Places.l0 k1 l1 y311 (wrap64 (x7_1 - 1)) t298 t309 t310) = some r := by first | (rw [hy311]; with_reducible exact H) | (have H2_ := (Option.bind_some _ _).symm.trans H; rw [hy311]; with_reducible exact H2_) | (have H2_ := (Option.bind_some _ _).symm.trans H; with_reducible exact H2_) | with_reducible exact H | (rw [hy311]; exact H) | exact H
          have Ny311 := Aside0.mk hy311
          clear hy311
          have H' := Aside0.mk H
          clear H
          go_wp2_with (first | ((with_reducible refine gate_callee (f := 39) rfl ?_); refine goesL_ (some 21) rfl rfl Tryz.func39 (by kernel_rfl) rfl #[.pointer (some ⟨g301, 0, none⟩), .int .i64 (l1.length : Int)] rfl (by (try simp only [List.map_toArray, List.map_cons, List.map_nil]); first | done | rfl | (simp only [List.length_drop, List.length_take]; rfl)) ?_; (with_reducible refine (spec_l00Src_pick.calls g301 t298 x302001_1 x302002_1 (l1.length : Int) t308 t309 t310 w _ ?side1 ?side2 A10.out).mono ?_); (case side1 => repeat (first | (with_reducible first | exact HI301.out | apply IsS79.alloc | apply IsS79.drewN | apply IsS79.drew | apply IsS79.set_1 | apply IsS79.set_2) | exact HI301.out)); (case side2 => repeat (first | (with_reducible first | exact HB.out | apply below_alloc | apply pw_below_drewN | apply below_drew1 | refine below_set ?_ (IsS79.ge HI301.out)) | exact HB.out)); rintro e w12 ⟨rfl, hi, hb, hk⟩; refine ⟨_, rfl, ?_⟩; have n0_ := Aside0.mk (Kd.R_mono (Kd.R_keep (IsS79.apart (show IsS79 w _ g301 t298 x302001_1 x302002_1 from by repeat (first | (with_reducible first | exact HI301.out | apply IsS79.alloc | apply IsS79.drewN | apply IsS79.drew | apply IsS79.set_1 | apply IsS79.set_2) | exact HI301.out)) (by (with_reducible repeat (first | apply Kd.R_alloc | apply Kd.R_drewN | apply Kd.R_drew)); exact HO_6.out) (by decide)) hk (fun _ h => h.2)) (fun _ h => h.1)); have n1_ := Aside0.mk (hb); have n2_ := Aside0.mk (hi); clear HO_6; clear HB; clear HI301; have HO_6 := n0_; have HB := n1_; have HI301 := n2_; clear n0_ n1_ n2_; (try clear hb); (try clear hb2); (try clear hk); (try clear hi)) | ((with_reducible refine gate_builtin (b := .append) (xs := #[.tmp 17, .tmp 22]) rfl ?_); at_builtin; refine Kd.R_append (Kd.int .i64) (w0 := w) w.heap.size rfl (.tmp 17) (.tmp 22) 43 2 (.int .i64 0) 8 rfl Tryz.underlying43 info2 rfl (by decide) (by omega) u6 x6_1 t308 [.int .i64 t308] (fun _ => True) (fun _ => False) rfl rfl ?aP (fun _ hk => hk.elim) ?aF ?aO ?aB ?aS ?aL ?_; (case aP => exact rfl); (case aB => exact (by repeat (first | (with_reducible first | exact HB.out | apply below_alloc | apply pw_below_drewN | apply below_drew1 | refine below_set ?_ (IsS79.ge HI301.out)) | exact HB.out))); (case aF => exact (fun _ _ => trivial)); (case aO => exact (by (with_reducible repeat (first | apply Kd.R_alloc | apply Kd.R_drewN | apply Kd.R_drew)); exact HO_6.out)); (case aS => exact (below_size (by repeat (first | (with_reducible first | exact HB.out | apply below_alloc | apply pw_below_drewN | apply below_drew1 | refine below_set ?_ (IsS79.ge HI301.out)) | exact HB.out)))); (case aL => have := LMc11.out; omega); intro v312 w13 ho hb hg hat; rw [← Ny311.out] at ho; have n0_ := Aside0.mk (IsS79.grown (by repeat (first | (with_reducible first | exact HI301.out | apply IsS79.alloc | apply IsS79.drewN | apply IsS79.drew | apply IsS79.set_1 | apply IsS79.set_2) | exact HI301.out)) hg (IsS79.own_ne HI301.out HO_6.out (by decide))); have n1_ := Aside0.mk (hb); have n2_ := Aside0.mk (ho); clear HI301; clear HB; clear HO_6; have HI301 := n0_; have HB := n1_; have HO313 := n2_; clear n0_ n1_ n2_; clear ho hb hg hat))
          go_roundg k1
          case measure => have := HK1.out; omega
          case rel => exact ⟨(y311), (wrap64 (x7_1 - 1)), (t309), (t310), (by first | rfl | (simp; done) | (simp [*]; done)), H', ⟨by have := HK1.out; omega⟩, ⟨by (with_reducible repeat (first | apply Kd.R_alloc | apply Kd.R_drewN | apply Kd.R_drew)); exact HO313.out⟩, ⟨by repeat (first | (with_reducible first | exact HI301.out | apply IsS79.alloc | apply IsS79.drewN | apply IsS79.drew | apply IsS79.set_1 | apply IsS79.set_2) | exact HI301.out)⟩, ⟨by repeat (first | (with_reducible first | exact HB.out | apply below_alloc | apply pw_below_drewN | apply below_drew1 | refine below_set ?_ (IsS79.ge HI301.out)) | exact HB.out)⟩⟩
        · rw [if_neg c11] at H
          exact absurd H (by simp)
      · rw [if_neg c9] at H
        have c9b0 : decide (0 < x7_1) = false := decide_eq_false c9
        clear c9
        obtain rfl := Option.some.inj H
        go_wp2
        go_ret
        exact ⟨_, by first | rfl | (simp [errW_none, errW_some] <;> rfl) | (simp [*, errW_none, errW_some] <;> rfl), by (with_reducible repeat (first | apply Kd.R_alloc | apply Kd.R_drewN | apply Kd.R_drew)); exact HO_6.out, by repeat (first | (with_reducible first | exact HB.out | apply below_alloc | apply pw_below_drewN | apply below_drew1 | refine below_set ?_ (IsS79.ge HI301.out)) | exact HB.out)⟩

-- NOT PRINTED: function 69 (slices_IndexFunc_int64_int64)

-- NOT PRINTED: function 57 (slices_ContainsFunc_int64_int64)

/-! ### impl_placeCode: function 42 -/
def okPlace (G : Nat) (p : Int) : Bool := decide (0 ≤ p) && decide (p ≤ wrap64 ((G : Int) - 1))
theorem within_okPlace (G : Nat) (p : Int) : impl_within.f p 0 (wrap64 ((G : Int) - 1)) = some (okPlace G p) := by
  unfold impl_within.f okPlace
  by_cases h : 0 ≤ p <;> simp [h]
set_option maxHeartbeats 400000 in
set_option maxRecDepth 100000 in
theorem place1 (A0 : Option Addr) (G c0 : Nat) (p : Int) (b : Nat) (w : World) (hb : w.cell? ⟨b, 0, none⟩ = some (.slice A0 G c0)) :
    Calls Tryz.prog 58 #[.int .i64 p, .pointer (some ⟨b, 0, none⟩)] w fun e w' => e = .returned (.bool (!(okPlace G p))) ∧ Drawn0 w w' := by
  have HW := Aside0.mk (within_okPlace G p)
  go_enter Tryz.func58, Tryz.ntmps58
  go_wp2_with (go_at_call 38; (with_reducible refine (impl_within.calls _ _ _ _ _ HW.out).mono ?_); rintro e w' ⟨rfl, hd⟩)
  go_ret
  exact ⟨rfl, hd⟩
theorem any_take (l : List Int) (q : Int → Bool) (n : Nat) (h : n < l.length) (h0 : (l.take n).any q = false) : (l.take (n + 1)).any q = q l[n] := by
  rw [List.take_succ_eq_append_getElem h, List.any_append, h0]
  simp
theorem any_hit (l : List Int) (q : Int → Bool) (n : Nat) (h : n < l.length) (h1 : q l[n] = true) : l.any q = true := List.any_eq_true.2 ⟨_, List.getElem_mem h, h1⟩
set_option maxHeartbeats 400000 in
set_option maxRecDepth 100000 in
theorem index1 (A0 : Option Addr) (G c0 : Nat) (A1 : Option Addr) (c1 : Nat) (l1 : List Int) (b : Nat) (w : World) (hb : w.cell? ⟨b, 0, none⟩ = some (.slice A0 G c0)) (hr1 : Kd.C (Kd.int .i64) w A1 l1.length l1) (hc1 : l1.length ≤ c1) :
    Calls Tryz.prog 69 #[.slice A1 l1.length c1, .func (.func 58) #[] #[.pointer (some ⟨b, 0, none⟩)]] w fun e w' => (∃ r : Int, e = .returned (.int .i64 r) ∧ Aside0 (decide (r ≥ 0) = l1.any (fun p => !(okPlace G p)))) ∧ Drawn0 w w' := by
  have HR := Aside0.mk (Kd.reads_of_C (d := (0 : Int)) hr1)
  clear hr1
  have hm := HR.out.2.1
  go_enter Tryz.func69, Tryz.ntmps69
  go_wp2_with fail
  go_loopw [8] (fun i w' => ∃ n : Nat, n ≤ l1.length ∧ i = .int .i64 n ∧ Aside0 ((l1.take n).any (fun p => !(okPlace G p)) = false) ∧ Drawn0 w w') (fun i w' => l1.length - (intOf i).toNat)
  case atStart => exact ⟨0, Nat.zero_le _, rfl, ⟨rfl⟩, Drawn0.refl _⟩
  case round =>
    obtain ⟨n, hn, rfl, HA, ⟨m1, rfl⟩⟩ := hrel
    by_cases hlt : n < l1.length
    · obtain ⟨ad, rfl, hcc⟩ := HR.out.2.2 (by omega)
      have hcell := hcc n hlt
      have e : l1.getD n 0 = l1[n] := by simp [List.getD_eq_getElem?_getD, List.getElem?_eq_getElem hlt]
      rw [e] at hcell
      clear e hcc
      have hb2 : (w.drewN m1).cell? ⟨b, 0, none⟩ = some (.slice A0 G c0) := hb
      go_wp2_with (go_at_call 58; refine (place1 A0 G c0 _ b _ hb2).mono ?_; rintro e w' ⟨rfl, ⟨m2, rfl⟩⟩)
      · have hh : (!okPlace G l1[n]) = true := by assumption
        have hA := any_hit l1 (fun p => !(okPlace G p)) n hlt hh
        go_ret
        exact ⟨⟨(n : Int), rfl, ⟨by rw [hA]; simp⟩⟩, ⟨m1 + m2, rfl⟩⟩
      · have hh : (!okPlace G l1[n]) = false := by assumption
        have hA := any_take l1 (fun p => !(okPlace G p)) n hlt HA.out
        exact ⟨⟨n + 1, by omega, by go_num, ⟨by rw [hA]; exact hh⟩, ⟨m1 + m2, rfl⟩⟩, by simp [intOf]; omega⟩
    · obtain rfl : n = l1.length := by omega
      have hA := HA.out
      rw [List.take_length] at hA
      have HB := Aside0.mk hA
      clear hA
      go_wp2_with fail
      go_ret
      exact ⟨⟨-1, rfl, ⟨by rw [HB.out]; rfl⟩⟩, ⟨m1, rfl⟩⟩
set_option maxHeartbeats 400000 in
set_option maxRecDepth 100000 in
theorem contains1 (A0 : Option Addr) (G c0 : Nat) (A1 : Option Addr) (c1 : Nat) (l1 : List Int) (b : Nat) (w : World) (hb : w.cell? ⟨b, 0, none⟩ = some (.slice A0 G c0)) (hr1 : Kd.C (Kd.int .i64) w A1 l1.length l1) (hc1 : l1.length ≤ c1) :
    Calls Tryz.prog 57 #[.slice A1 l1.length c1, .func (.func 58) #[] #[.pointer (some ⟨b, 0, none⟩)]] w fun e w' => e = .returned (.bool (l1.any (fun p => !(okPlace G p)))) ∧ Drawn0 w w' := by
  have HR := Aside0.mk hr1
  clear hr1
  go_enter Tryz.func57, Tryz.ntmps57
  go_wp2_with (go_at_call 69; refine (index1 A0 G c0 A1 c1 l1 b _ hb HR.out hc1).mono ?_; rintro e w' ⟨⟨r, rfl, hr⟩, ⟨m, rfl⟩⟩)
  go_ret
  exact ⟨by rw [← hr.out]; rfl, ⟨m, rfl⟩⟩
/-- What placeCode tells. -/
def impl_placeCode.f (k : Nat) (l0 : List (List Int)) (l1 : List Int) : Option (Int) := (impl_ValidGame.f k l0).bind fun t => if t = true then (if (l1.any fun p => !(okPlace l0.length p)) = true then some 2 else some 0) else some 1
theorem impl_placeCode.mono : ∀ a0 a1 k, LeO (impl_placeCode.f k a0 a1) (impl_placeCode.f (k + 1) a0 a1) := by
  intro a0 a1 k
  unfold impl_placeCode.f
  exact LeO.bind (impl_ValidGame.mono _ _) (fun _ => LeO.refl _)
set_option maxHeartbeats 800000 in
set_option maxRecDepth 100000 in
theorem impl_placeCode.calls (k : Nat) (A0 : Option Addr) (c0 : Nat) (l0 : List (List Int)) (A1 : Option Addr) (c1 : Nat) (l1 : List Int) (r : Int) (w : World) (hr0 : Kd.C (Kd.slice 66 (Kd.int .i8)) w A0 l0.length l0) (hc0 : l0.length ≤ c0) (hr1 : Kd.C (Kd.int .i64) w A1 l1.length l1) (hc1 : l1.length ≤ c1) (h : impl_placeCode.f k l0 l1 = some r) :
    Calls Tryz.prog 42 #[.slice A0 l0.length c0, .slice A1 l1.length c1] w fun e w' => e = .returned (.int .i64 r) ∧ Below w.heap.size w w' := by
  have HR0 := Aside0.mk hr0
  have HR1 := Aside0.mk hr1
  have HC0 := Aside0.mk hc0
  have HC1 := Aside0.mk hc1
  clear hr0 hr1 hc0 hc1
  obtain ⟨v, hv, h2⟩ := Option.bind_eq_some_iff.mp h
  clear h
  have HV := Aside0.mk hv
  clear hv
  cases v with
  | false =>
    rw [if_neg (by simp)] at h2
    obtain rfl := Option.some.inj h2
    clear h2
    go_enter Tryz.func42, Tryz.ntmps42
    go_wp2_with (go_at_call 15; refine (impl_ValidGame.calls k _ _ l0 false _ (Kd.C_alloc HR0.out _) HC0.out HV.out).mono ?_; rintro e w' ⟨rfl, ⟨m, rfl⟩⟩)
    go_ret
    exact ⟨rfl, pw_below_drewN (below_alloc (Below.refl _ _) _) m⟩
  | true =>
    rw [if_pos rfl] at h2
    cases ha : (l1.any fun p => !(okPlace l0.length p)) with
    | true =>
      rw [if_pos ha] at h2
      obtain rfl := Option.some.inj h2
      clear h2
      have HA := Aside0.mk ha
      clear ha
      go_enter Tryz.func42, Tryz.ntmps42
      go_wp2_with (first | (go_at_call 15; refine (impl_ValidGame.calls k _ _ l0 true _ (Kd.C_alloc HR0.out _) HC0.out HV.out).mono ?_; rintro e w' ⟨rfl, ⟨m, rfl⟩⟩) | (go_at_call 57; refine (contains1 A0 l0.length c0 A1 c1 l1 w.heap.size _ (by simp) (Kd.C_drewN (Kd.C_alloc HR1.out _) _) HC1.out).mono ?_; rw [HA.out]; rintro e w' ⟨rfl, ⟨m2, rfl⟩⟩))
      go_ret
      exact ⟨rfl, pw_below_drewN (below_alloc (Below.refl _ _) _) _⟩
    | false =>
      rw [if_neg (by simp [ha])] at h2
      obtain rfl := Option.some.inj h2
      clear h2
      have HA := Aside0.mk ha
      clear ha
      go_enter Tryz.func42, Tryz.ntmps42
      go_wp2_with (first | (go_at_call 15; refine (impl_ValidGame.calls k _ _ l0 true _ (Kd.C_alloc HR0.out _) HC0.out HV.out).mono ?_; rintro e w' ⟨rfl, ⟨m, rfl⟩⟩) | (go_at_call 57; refine (contains1 A0 l0.length c0 A1 c1 l1 w.heap.size _ (by simp) (Kd.C_drewN (Kd.C_alloc HR1.out _) _) HC1.out).mono ?_; rw [HA.out]; rintro e w' ⟨rfl, ⟨m2, rfl⟩⟩))
      go_ret
      exact ⟨rfl, pw_below_drewN (below_alloc (Below.refl _ _) _) _⟩

/-! ### impl_sumCode: function 40 -/
def impl_sumCode.f (k : Nat) (l0 : List (List Int)) (l1 : List Int) : Option (Int) := (impl_ValidGame.f k l0).bind fun t314 => (if t314 = true then (if (l1.length : Int) > 12 then (some 3) else ((impl_placeCode.f k l0 l1).bind fun t315 => (some t315))) else ((impl_placeCode.f k l0 l1).bind fun t316 => (some t316)))
theorem impl_sumCode.mono : ∀ a0 a1 k, LeO (impl_sumCode.f k a0 a1) (impl_sumCode.f (k + 1) a0 a1) := by
  intro a0 a1 k
  unfold impl_sumCode.f
  repeat' first
      | (with_reducible exact impl_ValidGame.mono _ _)
      | (with_reducible exact impl_placeCode.mono _ _ _)
      | (with_reducible exact LeO.refl _)
      | (with_reducible exact LeO.none _)
      | (with_reducible refine LeO.ite ?_ ?_)
      | (with_reducible refine LeO.bind ?_ (fun _ => ?_))
      | exact impl_ValidGame.mono _ _
      | exact impl_placeCode.mono _ _ _
      | exact LeO.none _
      | refine LeO.ite ?_ ?_
      | refine LeO.bind ?_ (fun _ => ?_)
set_option maxHeartbeats 8000000 in
set_option maxRecDepth 100000 in
theorem impl_sumCode.calls (k : Nat) (A0 : Option Addr) (c0 : Nat) (l0 : List (List Int)) (A1 : Option Addr) (c1 : Nat) (l1 : List Int) (r : Int) (w : World) (hr0 : Kd.C (Kd.slice 66 (Kd.int .i8)) w A0 l0.length l0) (hc0 : l0.length ≤ c0) (hr1 : Kd.C (Kd.int .i64) w A1 l1.length l1) (hc1 : l1.length ≤ c1) (h : impl_sumCode.f k l0 l1 = some r) :
    Calls Tryz.prog 40 #[.slice A0 l0.length c0, .slice A1 l1.length c1] w fun e w' => e = .returned (.int .i64 r) ∧ Below w.heap.size w w' := by
  have HR0 := Aside0.mk hr0
  have HC0 := Aside0.mk hc0
  clear hr0 hc0
  have HR1 := Aside0.mk hr1
  have HC1 := Aside0.mk hc1
  clear hr1 hc1
  have HB := Aside0.mk (Below.refl w.heap.size w)
  have H : ((impl_ValidGame.f k l0).bind fun t314 => (if t314 = true then (if (l1.length : Int) > 12 then (some 3) else ((impl_placeCode.f k l0 l1).bind fun t315 => (some t315))) else ((impl_placeCode.f k l0 l1).bind fun t316 => (some t316)))) = some r := h
  clear h
  replace H := Option.bind_eq_some_iff.mp H
  obtain ⟨t314, A30, H⟩ := H
  replace H : (if t314 = true then (if (l1.length : Int) > 12 then (some 3) else ((impl_placeCode.f k l0 l1).bind fun t315 => (some t315))) else ((impl_placeCode.f k l0 l1).bind fun t316 => (some t316))) = some r := H
  have A3 := Aside0.mk A30
  clear A30
  by_cases c4 : t314 = true
  · subst c4
    have H1 : (if (l1.length : Int) > 12 then (some 3) else ((impl_placeCode.f k l0 l1).bind fun t315 => (some t315))) = some r := by rw [if_pos rfl] at H; exact H
    clear H
    have H := H1
    clear H1
    by_cases c5 : (l1.length : Int) > 12
    · rw [if_pos c5] at H
      have c5b0 : decide (12 < (l1.length : Int)) = true := decide_eq_true c5
      have c5b1 : decide (12 < l1.length) = true := decide_eq_true (by omega)
      clear c5
      obtain rfl := Option.some.inj H
      go_enter Tryz.func40, Tryz.ntmps40
      go_wp2_with (first | ((with_reducible refine gate_callee (f := 15) rfl ?_); refine goesL_ (some 6) rfl rfl Tryz.func15 (by kernel_rfl) rfl #[.slice A0 l0.length c0] rfl (by (try simp only [List.map_toArray, List.map_cons, List.map_nil]); first | done | rfl | (simp only [List.length_drop, List.length_take]; rfl)) ?_; (with_reducible refine (impl_ValidGame.calls k _ _ l0 true _ ?side1 ?side2 A3.out).mono ?_); (case side1 => repeat (first | exact HR0.out | (with_reducible refine Kd.C_alloc ?_ _) | (with_reducible refine Kd.C_drewN ?_ _) | (with_reducible refine Kd.C_drew ?_))); (case side2 => exact HC0.out); rintro e w' ⟨rfl, ⟨nd, rfl⟩⟩; refine ⟨_, rfl, ?_⟩))
      go_ret
      exact ⟨by first | rfl | (simp [errW_none, errW_some] <;> rfl) | (simp [*, errW_none, errW_some] <;> rfl), by repeat (first | (with_reducible first | exact HB.out | apply below_alloc | apply pw_below_drewN | apply below_drew1) | exact HB.out)⟩
    · rw [if_neg c5] at H
      have c5b0 : decide (12 < (l1.length : Int)) = false := decide_eq_false c5
      have c5b1 : decide (12 < l1.length) = false := decide_eq_false (by omega)
      clear c5
      replace H := Option.bind_eq_some_iff.mp H
      obtain ⟨t315, A60, H⟩ := H
      replace H : (some t315) = some r := H
      have A6 := Aside0.mk A60
      clear A60
      obtain rfl := Option.some.inj H
      go_enter Tryz.func40, Tryz.ntmps40
      go_wp2_with (first | ((with_reducible refine gate_callee (f := 15) rfl ?_); refine goesL_ (some 6) rfl rfl Tryz.func15 (by kernel_rfl) rfl #[.slice A0 l0.length c0] rfl (by (try simp only [List.map_toArray, List.map_cons, List.map_nil]); first | done | rfl | (simp only [List.length_drop, List.length_take]; rfl)) ?_; (with_reducible refine (impl_ValidGame.calls k _ _ l0 true _ ?side1 ?side2 A3.out).mono ?_); (case side1 => repeat (first | exact HR0.out | (with_reducible refine Kd.C_alloc ?_ _) | (with_reducible refine Kd.C_drewN ?_ _) | (with_reducible refine Kd.C_drew ?_))); (case side2 => exact HC0.out); rintro e w' ⟨rfl, ⟨nd, rfl⟩⟩; refine ⟨_, rfl, ?_⟩) | ((with_reducible refine gate_callee (f := 42) rfl ?_); refine goesL_ (some 14) rfl rfl Tryz.func42 (by kernel_rfl) rfl #[.slice A0 l0.length c0, .slice A1 l1.length c1] rfl (by (try simp only [List.map_toArray, List.map_cons, List.map_nil]); first | done | rfl | (simp only [List.length_drop, List.length_take]; rfl)) ?_; (with_reducible refine (impl_placeCode.calls k _ _ l0 _ _ l1 t315 _ ?side1 ?side2 ?side3 ?side4 A6.out).mono ?_); (case side1 => repeat (first | exact HR0.out | (with_reducible refine Kd.C_alloc ?_ _) | (with_reducible refine Kd.C_drewN ?_ _) | (with_reducible refine Kd.C_drew ?_))); (case side2 => exact HC0.out); (case side3 => repeat (first | exact HR1.out | (with_reducible refine Kd.C_alloc ?_ _) | (with_reducible refine Kd.C_drewN ?_ _) | (with_reducible refine Kd.C_drew ?_))); (case side4 => exact HC1.out); rintro e w7 ⟨rfl, hb⟩; refine ⟨_, rfl, ?_⟩; have n0_ := Aside0.mk (below_step (by repeat (first | (with_reducible first | exact HB.out | apply below_alloc | apply pw_below_drewN | apply below_drew1) | exact HB.out)) hb); clear HB; have HB := n0_; clear n0_; (try clear hb); (try clear hb2); (try clear hk); (try clear hi)))
      go_ret
      exact ⟨by first | rfl | (simp [errW_none, errW_some] <;> rfl) | (simp [*, errW_none, errW_some] <;> rfl), by repeat (first | (with_reducible first | exact HB.out | apply below_alloc | apply pw_below_drewN | apply below_drew1) | exact HB.out)⟩
  · replace c4 := Bool.eq_false_iff.mpr c4
    subst c4
    have H1 : ((impl_placeCode.f k l0 l1).bind fun t316 => (some t316)) = some r := by rw [if_neg (show ¬ (false = true) by decide)] at H; exact H
    clear H
    have H := H1
    clear H1
    replace H := Option.bind_eq_some_iff.mp H
    obtain ⟨t316, A80, H⟩ := H
    replace H : (some t316) = some r := H
    have A8 := Aside0.mk A80
    clear A80
    obtain rfl := Option.some.inj H
    go_enter Tryz.func40, Tryz.ntmps40
    go_wp2_with (first | ((with_reducible refine gate_callee (f := 15) rfl ?_); refine goesL_ (some 6) rfl rfl Tryz.func15 (by kernel_rfl) rfl #[.slice A0 l0.length c0] rfl (by (try simp only [List.map_toArray, List.map_cons, List.map_nil]); first | done | rfl | (simp only [List.length_drop, List.length_take]; rfl)) ?_; (with_reducible refine (impl_ValidGame.calls k _ _ l0 false _ ?side1 ?side2 A3.out).mono ?_); (case side1 => repeat (first | exact HR0.out | (with_reducible refine Kd.C_alloc ?_ _) | (with_reducible refine Kd.C_drewN ?_ _) | (with_reducible refine Kd.C_drew ?_))); (case side2 => exact HC0.out); rintro e w' ⟨rfl, ⟨nd, rfl⟩⟩; refine ⟨_, rfl, ?_⟩) | ((with_reducible refine gate_callee (f := 42) rfl ?_); refine goesL_ (some 14) rfl rfl Tryz.func42 (by kernel_rfl) rfl #[.slice A0 l0.length c0, .slice A1 l1.length c1] rfl (by (try simp only [List.map_toArray, List.map_cons, List.map_nil]); first | done | rfl | (simp only [List.length_drop, List.length_take]; rfl)) ?_; (with_reducible refine (impl_placeCode.calls k _ _ l0 _ _ l1 t316 _ ?side1 ?side2 ?side3 ?side4 A8.out).mono ?_); (case side1 => repeat (first | exact HR0.out | (with_reducible refine Kd.C_alloc ?_ _) | (with_reducible refine Kd.C_drewN ?_ _) | (with_reducible refine Kd.C_drew ?_))); (case side2 => exact HC0.out); (case side3 => repeat (first | exact HR1.out | (with_reducible refine Kd.C_alloc ?_ _) | (with_reducible refine Kd.C_drewN ?_ _) | (with_reducible refine Kd.C_drew ?_))); (case side4 => exact HC1.out); rintro e w9 ⟨rfl, hb⟩; refine ⟨_, rfl, ?_⟩; have n0_ := Aside0.mk (below_step (by repeat (first | (with_reducible first | exact HB.out | apply below_alloc | apply pw_below_drewN | apply below_drew1) | exact HB.out)) hb); clear HB; have HB := n0_; clear n0_; (try clear hb); (try clear hb2); (try clear hk); (try clear hi)))
    go_ret
    exact ⟨by first | rfl | (simp [errW_none, errW_some] <;> rfl) | (simp [*, errW_none, errW_some] <;> rfl), by repeat (first | (with_reducible first | exact HB.out | apply below_alloc | apply pw_below_drewN | apply below_drew1) | exact HB.out)⟩

/-! ### impl_sumAt: function 41 -/
def impl_sumAt.l0 : Nat → List Int → Int → List Int → Int → Int → Option (Int)
  | 0, _, _, _, _, _ => none
  | k + 1, x0, x5, x8, x9, x10 => if x10 < x9 then (if 0 ≤ x10 then (if x10 < (x8.length : Int) then (if 0 ≤ (rd x8 x10) then (if (rd x8 x10) < (x0.length : Int) then (impl_sumAt.l0 k x0 (Go.bits .xor .u16 x5 (rd x0 (rd x8 x10))) x8 x9 (wrap64 (x10 + 1))) else (none)) else (none)) else (none)) else (none)) else (some x5)
def impl_sumAt.f (k : Nat) (l0 : List Int) (l1 : List Int) : Option (Int) := impl_sumAt.l0 k l0 0 l1 (l1.length : Int) 0
theorem impl_sumAt.mono_l : ∀ k, (∀ y0 y1 y2 y3 y4, LeO (impl_sumAt.l0 k y0 y1 y2 y3 y4) (impl_sumAt.l0 (k + 1) y0 y1 y2 y3 y4))
  | 0 => fun _ _ _ _ _ r h => by simp [impl_sumAt.l0] at h
  | k + 1 => by
    have ih0 := impl_sumAt.mono_l k
    · intro y0 y1 y2 y3 y4
      unfold impl_sumAt.l0
      repeat' first
      | (with_reducible exact ih0 _ _ _ _ _)
      | (with_reducible exact LeO.refl _)
      | (with_reducible exact LeO.none _)
      | (with_reducible refine LeO.ite ?_ ?_)
      | (with_reducible refine LeO.bind ?_ (fun _ => ?_))
      | exact ih0 _ _ _ _ _
      | exact LeO.none _
      | refine LeO.ite ?_ ?_
      | refine LeO.bind ?_ (fun _ => ?_)
theorem impl_sumAt.mono : ∀ a0 a1 k, LeO (impl_sumAt.f k a0 a1) (impl_sumAt.f (k + 1) a0 a1) := by
  intro a0 a1 k
  have ih0 := impl_sumAt.mono_l k
  unfold impl_sumAt.f
  repeat' first
      | (with_reducible exact ih0 _ _ _ _ _)
      | (with_reducible exact LeO.refl _)
      | (with_reducible exact LeO.none _)
      | (with_reducible refine LeO.ite ?_ ?_)
      | (with_reducible refine LeO.bind ?_ (fun _ => ?_))
      | exact ih0 _ _ _ _ _
      | exact LeO.none _
      | refine LeO.ite ?_ ?_
      | refine LeO.bind ?_ (fun _ => ?_)
set_option maxHeartbeats 8000000 in
set_option maxRecDepth 100000 in
theorem impl_sumAt.calls (k : Nat) (A0 : Option Addr) (c0 : Nat) (l0 : List Int) (A1 : Option Addr) (c1 : Nat) (l1 : List Int) (r : Int) (w : World) (hr0 : Kd.C (Kd.int .u16) w A0 l0.length l0) (hc0 : l0.length ≤ c0) (hr1 : Kd.C (Kd.int .i64) w A1 l1.length l1) (hc1 : l1.length ≤ c1) (h : impl_sumAt.f k l0 l1 = some r) :
    Calls Tryz.prog 41 #[.slice A0 l0.length c0, .slice A1 l1.length c1] w fun e w' => e = .returned (.int .u16 r) ∧ Drawn0 w w' := by
  have HR0 := Aside0.mk hr0
  have HC0 := Aside0.mk hc0
  clear hr0 hc0
  have HR1 := Aside0.mk hr1
  have HC1 := Aside0.mk hc1
  clear hr1 hc1
  have H : (impl_sumAt.l0 k l0 0 l1 (l1.length : Int) 0) = some r := h
  clear h
  have H' := Aside0.mk H
  clear H
  go_enter Tryz.func41, Tryz.ntmps41
  go_wp2
  go_loopg [5, 10] k (fun kq v5 v10 w' => ∃ (x5_1 : Int) (x10_1 : Int), v5 = .int .u16 x5_1 ∧ v10 = .int .i64 x10_1 ∧ Aside0 (impl_sumAt.l0 kq l0 x5_1 l1 (l1.length : Int) x10_1 = some r) ∧ Aside0 (kq ≤ k) ∧ Drawn0 w w')
  case atStart => exact ⟨(0), (0), (by first | rfl | (simp; done) | (simp [*]; done)), (by first | rfl | (simp; done) | (simp [*]; done)), H', ⟨Nat.le_refl _⟩, by repeat (first | exact Drawn0.refl _ | apply Drawn0.step)⟩
  case round =>
    clear H'
    try clear c1
    try clear p2
    obtain ⟨x5_1, x10_1, rfl, rfl, HA, HK1, ⟨m1, rfl⟩⟩ := hrel
    cases gk with
    | zero => exact absurd HA.out (by simp [impl_sumAt.l0])
    | succ k1 =>
      have H := HA.out
      clear HA
      simp only [impl_sumAt.l0] at H
      by_cases c3 : x10_1 < (l1.length : Int)
      · rw [if_pos c3] at H
        have c3b0 : decide (x10_1 < (l1.length : Int)) = true := decide_eq_true c3
        clear c3
        by_cases c4 : 0 ≤ x10_1
        · rw [if_pos c4] at H
          have c4b0 : decide (0 ≤ x10_1) = true := decide_eq_true c4
          clear c4
          by_cases c5 : x10_1 < (l1.length : Int)
          · rw [if_pos c5] at H
            have c5b0 : decide (x10_1 < (l1.length : Int)) = true := decide_eq_true c5
            clear c5
            by_cases c6 : 0 ≤ (rd l1 x10_1)
            · rw [if_pos c6] at H
              have c6b0 : decide (0 ≤ (rd l1 x10_1)) = true := decide_eq_true c6
              clear c6
              by_cases c7 : (rd l1 x10_1) < (l0.length : Int)
              · rw [if_pos c7] at H
                have c7b0 : decide ((rd l1 x10_1) < (l0.length : Int)) = true := decide_eq_true c7
                clear c7
                have H' := Aside0.mk H
                clear H
                have p317 : 0 ≤ (x10_1 : Int) := of_decide_eq_true (by first | (with_reducible assumption) | assumption)
                have q317 : x10_1 < (l1.length : Int) := of_decide_eq_true (by first | (with_reducible assumption) | assumption)
                obtain ⟨ad317, e317, hx317_0⟩ := Kd.at_int HR1.out x10_1 p317 q317
                cases e317
                replace p317 := eq_true p317
                replace q317 := eq_true q317
                have p318 : 0 ≤ ((rd l1 x10_1) : Int) := of_decide_eq_true (by first | (with_reducible assumption) | assumption)
                have q318 : (rd l1 x10_1) < (l0.length : Int) := of_decide_eq_true (by first | (with_reducible assumption) | assumption)
                obtain ⟨ad318, e318, hx318_0⟩ := Kd.at_int HR0.out (rd l1 x10_1) p318 q318
                cases e318
                replace p318 := eq_true p318
                replace q318 := eq_true q318
                go_wp2
                go_roundg k1
                case measure => have := HK1.out; omega
                case rel => exact ⟨(Go.bits .xor .u16 x5_1 (rd l0 (rd l1 x10_1))), (wrap64 (x10_1 + 1)), (by first | rfl | (simp; done) | (simp [*]; done)), (by first | rfl | (simp; done) | (simp [*]; done)), H', ⟨by have := HK1.out; omega⟩, by repeat (first | exact Drawn0.refl _ | apply Drawn0.step)⟩
              · rw [if_neg c7] at H
                exact absurd H (by simp)
            · rw [if_neg c6] at H
              exact absurd H (by simp)
          · rw [if_neg c5] at H
            exact absurd H (by simp)
        · rw [if_neg c4] at H
          exact absurd H (by simp)
      · rw [if_neg c3] at H
        have c3b0 : decide (x10_1 < (l1.length : Int)) = false := decide_eq_false c3
        clear c3
        obtain rfl := Option.some.inj H
        go_wp2
        go_ret
        exact ⟨by first | rfl | (simp; done) | (simp [*]; done), by repeat (first | exact Drawn0.refl _ | apply Drawn0.step)⟩

/-! ### impl_SumAt: function 18 -/
def impl_SumAt.f (k : Nat) (l0 : List (List Int)) (l1 : List Int) : Option (Int × Int) := (impl_sumCode.f k l0 l1).bind fun t319 => (if t319 = 0 then ((impl_Game_values.f k l0).bind fun t320 => ((impl_sumAt.f k t320 l1).bind fun t323 => (some (t323, 0)))) else (some (0, t319)))
theorem impl_SumAt.mono : ∀ a0 a1 k, LeO (impl_SumAt.f k a0 a1) (impl_SumAt.f (k + 1) a0 a1) := by
  intro a0 a1 k
  unfold impl_SumAt.f
  repeat' first
      | (with_reducible exact impl_Game_values.mono _ _)
      | (with_reducible exact impl_sumAt.mono _ _ _)
      | (with_reducible exact impl_sumCode.mono _ _ _)
      | (with_reducible exact LeO.refl _)
      | (with_reducible exact LeO.none _)
      | (with_reducible refine LeO.ite ?_ ?_)
      | (with_reducible refine LeO.bind ?_ (fun _ => ?_))
      | exact impl_Game_values.mono _ _
      | exact impl_sumAt.mono _ _ _
      | exact impl_sumCode.mono _ _ _
      | exact LeO.none _
      | refine LeO.ite ?_ ?_
      | refine LeO.bind ?_ (fun _ => ?_)
set_option maxHeartbeats 8000000 in
set_option maxRecDepth 100000 in
theorem impl_SumAt.calls (k : Nat) (A0 : Option Addr) (c0 : Nat) (l0 : List (List Int)) (A1 : Option Addr) (c1 : Nat) (l1 : List Int) (r1 : Int) (r2 : Int) (w : World) (hr0 : Kd.C (Kd.slice 66 (Kd.int .i8)) w A0 l0.length l0) (hc0 : l0.length ≤ c0) (hr1 : Kd.C (Kd.int .i64) w A1 l1.length l1) (hc1 : l1.length ≤ c1) (h : impl_SumAt.f k l0 l1 = some (r1, r2)) :
    Calls Tryz.prog 18 #[.slice A0 l0.length c0, .slice A1 l1.length c1] w fun e w' => e = .returned (.tuple #[.int .u16 r1, .int .i64 r2]) ∧ Below w.heap.size w w' := by
  have HR0 := Aside0.mk hr0
  have HC0 := Aside0.mk hc0
  clear hr0 hc0
  have HR1 := Aside0.mk hr1
  have HC1 := Aside0.mk hc1
  clear hr1 hc1
  have HB := Aside0.mk (Below.refl w.heap.size w)
  have H : ((impl_sumCode.f k l0 l1).bind fun t319 => (if t319 = 0 then ((impl_Game_values.f k l0).bind fun t320 => ((impl_sumAt.f k t320 l1).bind fun t323 => (some (t323, 0)))) else (some (0, t319)))) = some (r1, r2) := h
  clear h
  replace H := Option.bind_eq_some_iff.mp H
  obtain ⟨t319, A30, H⟩ := H
  replace H : (if t319 = 0 then ((impl_Game_values.f k l0).bind fun t320 => ((impl_sumAt.f k t320 l1).bind fun t323 => (some (t323, 0)))) else (some (0, t319))) = some (r1, r2) := H
  have A3 := Aside0.mk A30
  clear A30
  by_cases c4 : t319 = 0
  · rw [if_pos c4] at H
    have c4b0 : (t319 == 0) = true := beq_iff_eq.mpr c4
    have c4b1 : (t319 != 0) = false := bne_eq_false_iff_eq.mpr c4
    clear c4
    replace H := Option.bind_eq_some_iff.mp H
    obtain ⟨t320, A50, H⟩ := H
    replace H : ((impl_sumAt.f k t320 l1).bind fun t323 => (some (t323, 0))) = some (r1, r2) := H
    have A5 := Aside0.mk A50
    clear A50
    replace H := Option.bind_eq_some_iff.mp H
    obtain ⟨t323, A60, H⟩ := H
    replace H : (some (t323, 0)) = some (r1, r2) := H
    have A6 := Aside0.mk A60
    clear A60
    simp only [Option.some.injEq, Prod.mk.injEq] at H
    obtain ⟨rfl, rfl⟩ := H
    go_enter Tryz.func18, Tryz.ntmps18
    go_wp2_with (first | ((with_reducible refine gate_callee (f := 40) rfl ?_); refine goesL_ (some 9) rfl rfl Tryz.func40 (by kernel_rfl) rfl #[.slice A0 l0.length c0, .slice A1 l1.length c1] rfl (by (try simp only [List.map_toArray, List.map_cons, List.map_nil]); first | done | rfl | (simp only [List.length_drop, List.length_take]; rfl)) ?_; (with_reducible refine (impl_sumCode.calls k _ _ l0 _ _ l1 t319 _ ?side1 ?side2 ?side3 ?side4 A3.out).mono ?_); (case side1 => repeat (first | exact HR0.out | (with_reducible refine Kd.C_alloc ?_ _) | (with_reducible refine Kd.C_drewN ?_ _) | (with_reducible refine Kd.C_drew ?_))); (case side2 => exact HC0.out); (case side3 => repeat (first | exact HR1.out | (with_reducible refine Kd.C_alloc ?_ _) | (with_reducible refine Kd.C_drewN ?_ _) | (with_reducible refine Kd.C_drew ?_))); (case side4 => exact HC1.out); rintro e w7 ⟨rfl, hb⟩; refine ⟨_, rfl, ?_⟩; have n0_ := Aside0.mk (below_step (by repeat (first | (with_reducible first | exact HB.out | apply below_alloc | apply pw_below_drewN | apply below_drew1) | exact HB.out)) hb); clear HB; have HB := n0_; clear n0_; (try clear hb); (try clear hb2); (try clear hk); (try clear hi)) | ((with_reducible refine gate_callee (f := 27) rfl ?_); refine goesL_ (some 14) rfl rfl Tryz.func27 (by kernel_rfl) rfl #[.slice A0 l0.length c0] rfl (by (try simp only [List.map_toArray, List.map_cons, List.map_nil]); first | done | rfl | (simp only [List.length_drop, List.length_take]; rfl)) ?_; (with_reducible refine (impl_Game_values.calls k _ _ l0 t320 _ ?side1 ?side2 A5.out).mono ?_); (case side1 => repeat (first | exact (Kd.C_below HR0.out HB.out) | (with_reducible refine Kd.C_alloc ?_ _) | (with_reducible refine Kd.C_drewN ?_ _) | (with_reducible refine Kd.C_drew ?_))); (case side2 => exact HC0.out); rintro e w8 ⟨v321, rfl, ho0, hb⟩; refine ⟨_, rfl, ?_⟩; have n0_ := Aside0.mk (Kd.R_lower ho0 (below_size (by repeat (first | (with_reducible first | exact HB.out | apply below_alloc | apply pw_below_drewN | apply below_drew1) | exact HB.out)))); have n1_ := Aside0.mk (below_step (by repeat (first | (with_reducible first | exact HB.out | apply below_alloc | apply pw_below_drewN | apply below_drew1) | exact HB.out)) hb); clear HB; have HO322 := n0_; have HB := n1_; clear n0_ n1_; (try clear hb); (try clear hb2); (try clear hk); (try clear hi); (try clear ho0); obtain ⟨Ao9, co9, eo9⟩ := Kd.R_slice HO322.out; subst eo9) | ((with_reducible refine gate_callee (f := 41) rfl ?_); refine goesL_ (some 16) rfl rfl Tryz.func41 (by kernel_rfl) rfl #[.slice Ao9 t320.length co9, .slice A1 l1.length c1] rfl (by (try simp only [List.map_toArray, List.map_cons, List.map_nil]); first | done | rfl | (simp only [List.length_drop, List.length_take]; rfl)) ?_; (with_reducible refine (impl_sumAt.calls k _ _ t320 _ _ l1 t323 _ ?side1 ?side2 ?side3 ?side4 A6.out).mono ?_); (case side1 => repeat (first | exact (Kd.R_reads' HO322.out).2.2 | (with_reducible refine Kd.C_alloc ?_ _) | (with_reducible refine Kd.C_drewN ?_ _) | (with_reducible refine Kd.C_drew ?_))); (case side2 => exact (Kd.R_reads' HO322.out).2.1); (case side3 => repeat (first | exact (Kd.C_below HR1.out HB.out) | (with_reducible refine Kd.C_alloc ?_ _) | (with_reducible refine Kd.C_drewN ?_ _) | (with_reducible refine Kd.C_drew ?_))); (case side4 => exact HC1.out); rintro e w' ⟨rfl, ⟨nd, rfl⟩⟩; refine ⟨_, rfl, ?_⟩))
    go_ret2
    exact ⟨by first | rfl | (simp [errW_none, errW_some] <;> rfl) | (simp [*, errW_none, errW_some] <;> rfl), by repeat (first | (with_reducible first | exact HB.out | apply below_alloc | apply pw_below_drewN | apply below_drew1) | exact HB.out)⟩
  · rw [if_neg c4] at H
    have c4b0 : (t319 == 0) = false := beq_eq_false_iff_ne.mpr c4
    have c4b1 : (t319 != 0) = true := bne_iff_ne.mpr c4
    simp only [Option.some.injEq, Prod.mk.injEq] at H
    obtain ⟨rfl, rfl⟩ := H
    go_enter Tryz.func18, Tryz.ntmps18
    go_wp2_with (first | ((with_reducible refine gate_callee (f := 40) rfl ?_); refine goesL_ (some 9) rfl rfl Tryz.func40 (by kernel_rfl) rfl #[.slice A0 l0.length c0, .slice A1 l1.length c1] rfl (by (try simp only [List.map_toArray, List.map_cons, List.map_nil]); first | done | rfl | (simp only [List.length_drop, List.length_take]; rfl)) ?_; (with_reducible refine (impl_sumCode.calls k _ _ l0 _ _ l1 t319 _ ?side1 ?side2 ?side3 ?side4 A3.out).mono ?_); (case side1 => repeat (first | exact HR0.out | (with_reducible refine Kd.C_alloc ?_ _) | (with_reducible refine Kd.C_drewN ?_ _) | (with_reducible refine Kd.C_drew ?_))); (case side2 => exact HC0.out); (case side3 => repeat (first | exact HR1.out | (with_reducible refine Kd.C_alloc ?_ _) | (with_reducible refine Kd.C_drewN ?_ _) | (with_reducible refine Kd.C_drew ?_))); (case side4 => exact HC1.out); rintro e w10 ⟨rfl, hb⟩; refine ⟨_, rfl, ?_⟩; have n0_ := Aside0.mk (below_step (by repeat (first | (with_reducible first | exact HB.out | apply below_alloc | apply pw_below_drewN | apply below_drew1) | exact HB.out)) hb); clear HB; have HB := n0_; clear n0_; (try clear hb); (try clear hb2); (try clear hk); (try clear hi)))
    go_ret2
    exact ⟨by first | rfl | (simp [errW_none, errW_some] <;> rfl) | (simp [*, errW_none, errW_some] <;> rfl), by repeat (first | (with_reducible first | exact HB.out | apply below_alloc | apply pw_below_drewN | apply below_drew1) | exact HB.out)⟩

/-! ### impl_ValueAt: function 19 -/
def impl_ValueAt.f (k : Nat) (l0 : List (List Int)) (a1 : Int) : Option (Int × Int) := (impl_placeCode.f k l0 (([a1] : List Int))).bind fun t327 => (if t327 = 0 then ((impl_Game_values.f k l0).bind fun t328 => (if 0 ≤ a1 then (if a1 < (t328.length : Int) then (some (rd t328 a1, 0)) else (none)) else (none))) else (some (0, t327)))
theorem impl_ValueAt.mono : ∀ a0 a1 k, LeO (impl_ValueAt.f k a0 a1) (impl_ValueAt.f (k + 1) a0 a1) := by
  intro a0 a1 k
  unfold impl_ValueAt.f
  repeat' first
      | (with_reducible exact impl_Game_values.mono _ _)
      | (with_reducible exact impl_placeCode.mono _ _ _)
      | (with_reducible exact LeO.refl _)
      | (with_reducible exact LeO.none _)
      | (with_reducible refine LeO.ite ?_ ?_)
      | (with_reducible refine LeO.bind ?_ (fun _ => ?_))
      | exact impl_Game_values.mono _ _
      | exact impl_placeCode.mono _ _ _
      | exact LeO.none _
      | refine LeO.ite ?_ ?_
      | refine LeO.bind ?_ (fun _ => ?_)
set_option maxHeartbeats 8000000 in
set_option maxRecDepth 100000 in
theorem impl_ValueAt.calls (k : Nat) (A0 : Option Addr) (c0 : Nat) (l0 : List (List Int)) (a1 : Int) (r1 : Int) (r2 : Int) (w : World) (hr0 : Kd.C (Kd.slice 66 (Kd.int .i8)) w A0 l0.length l0) (hc0 : l0.length ≤ c0) (h : impl_ValueAt.f k l0 a1 = some (r1, r2)) :
    Calls Tryz.prog 19 #[.slice A0 l0.length c0, .int .i64 a1] w fun e w' => e = .returned (.tuple #[.int .u16 r1, .int .i64 r2]) ∧ Below w.heap.size w w' := by
  have HR0 := Aside0.mk hr0
  have HC0 := Aside0.mk hc0
  clear hr0 hc0
  have HB := Aside0.mk (Below.refl w.heap.size w)
  have H : ((impl_placeCode.f k l0 (([a1] : List Int))).bind fun t327 => (if t327 = 0 then ((impl_Game_values.f k l0).bind fun t328 => (if 0 ≤ a1 then (if a1 < (t328.length : Int) then (some (rd t328 a1, 0)) else (none)) else (none))) else (some (0, t327)))) = some (r1, r2) := h
  clear h
  obtain ⟨y324, hy324⟩ : ∃ y_ : List Int, y_ = (([a1] : List Int)) := ⟨_, rfl⟩
  replace H : ((impl_placeCode.f k l0 y324).bind fun t327 => (if t327 = 0 then ((impl_Game_values.f k l0).bind fun t328 => (if 0 ≤ a1 then (if a1 < (t328.length : Int) then (some (rd t328 a1, 0)) else (none)) else (none))) else (some (0, t327)))) = some (r1, r2) := by first | (rw [hy324]; with_reducible exact H) | (have H2_ := (Option.bind_some _ _).symm.trans H; rw [hy324]; with_reducible exact H2_) | (have H2_ := (Option.bind_some _ _).symm.trans H; with_reducible exact H2_) | with_reducible exact H | (rw [hy324]; exact H) | exact H
  have Ny324 := Aside0.mk hy324
  clear hy324
  replace H := Option.bind_eq_some_iff.mp H
  obtain ⟨t327, A30, H⟩ := H
  replace H : (if t327 = 0 then ((impl_Game_values.f k l0).bind fun t328 => (if 0 ≤ a1 then (if a1 < (t328.length : Int) then (some (rd t328 a1, 0)) else (none)) else (none))) else (some (0, t327))) = some (r1, r2) := H
  have A3 := Aside0.mk A30
  clear A30
  by_cases c4 : t327 = 0
  · rw [if_pos c4] at H
    have c4b0 : (t327 == 0) = true := beq_iff_eq.mpr c4
    have c4b1 : (t327 != 0) = false := bne_eq_false_iff_eq.mpr c4
    clear c4
    replace H := Option.bind_eq_some_iff.mp H
    obtain ⟨t328, A50, H⟩ := H
    replace H : (if 0 ≤ a1 then (if a1 < (t328.length : Int) then (some (rd t328 a1, 0)) else (none)) else (none)) = some (r1, r2) := H
    have A5 := Aside0.mk A50
    clear A50
    by_cases c6 : 0 ≤ a1
    · rw [if_pos c6] at H
      have c6b0 : decide (0 ≤ a1) = true := decide_eq_true c6
      clear c6
      by_cases c7 : a1 < (t328.length : Int)
      · rw [if_pos c7] at H
        have c7b0 : decide (a1 < (t328.length : Int)) = true := decide_eq_true c7
        clear c7
        simp only [Option.some.injEq, Prod.mk.injEq] at H
        obtain ⟨rfl, rfl⟩ := H
        go_enter Tryz.func19, Tryz.ntmps19
        go_wp2_with (first | ((with_reducible refine gate_dst (N := 9) rfl ?_); refine Kd.R_lit (Kd.int .i64) _ 2 ?hg (N := 9) ?hd (xs := ([a1] : List Int)) (inner := [.int .i64 a1]) (ok := fun _ => True) (okp := fun _ => True) ?hr ?hp (fun _ hk => hk) trivial (Below.refl _ _) (Nat.le_refl _) (by simp) ?_; (case hd => rfl); (case hg => rfl); (case hr => first | (go_simp; done) | (go_simp; rfl)); (case hp => exact (Reps.one (show Kd.M (Kd.int .i64) _ _ _ a1 [.int .i64 a1] from rfl) (Reps.none _ _))); intro v325 w8 ho9 hb hg_ hnew_; clear hg_ hnew_; (first | rw [← Ny324.out] at ho9 | (simp only [Int.reduceToNat] at ho9; rw [← Ny324.out] at ho9)); have n0_ := Aside0.mk (Kd.R_lower ho9 (below_size (by repeat (first | (with_reducible first | exact HB.out | apply below_alloc | apply pw_below_drewN | apply below_drew1) | exact HB.out)))); have n1_ := Aside0.mk (below_step (by repeat (first | (with_reducible first | exact HB.out | apply below_alloc | apply pw_below_drewN | apply below_drew1) | exact HB.out)) hb); clear HB; have HO326 := n0_; have HB := n1_; clear n0_ n1_; clear hb ho9; obtain ⟨Ao10, co10, eo10⟩ := Kd.R_slice HO326.out; subst eo10) | ((with_reducible refine gate_callee (f := 42) rfl ?_); refine goesL_ (some 10) rfl rfl Tryz.func42 (by kernel_rfl) rfl #[.slice A0 l0.length c0, .slice Ao10 y324.length co10] rfl (by (try simp only [List.map_toArray, List.map_cons, List.map_nil]); first | done | rfl | (simp only [List.length_drop, List.length_take]; rfl)) ?_; (with_reducible refine (impl_placeCode.calls k _ _ l0 _ _ y324 t327 _ ?side1 ?side2 ?side3 ?side4 A3.out).mono ?_); (case side1 => repeat (first | exact (Kd.C_below HR0.out HB.out) | (with_reducible refine Kd.C_alloc ?_ _) | (with_reducible refine Kd.C_drewN ?_ _) | (with_reducible refine Kd.C_drew ?_))); (case side2 => exact HC0.out); (case side3 => repeat (first | exact (Kd.R_reads' HO326.out).2.2 | (with_reducible refine Kd.C_alloc ?_ _) | (with_reducible refine Kd.C_drewN ?_ _) | (with_reducible refine Kd.C_drew ?_))); (case side4 => exact (Kd.R_reads' HO326.out).2.1); rintro e w11 ⟨rfl, hb⟩; refine ⟨_, rfl, ?_⟩; have n0_ := Aside0.mk (Kd.R_below (by (with_reducible repeat (first | apply Kd.R_alloc | apply Kd.R_drewN | apply Kd.R_drew)); exact HO326.out) hb); have n1_ := Aside0.mk (below_step (by repeat (first | (with_reducible first | exact HB.out | apply below_alloc | apply pw_below_drewN | apply below_drew1) | exact HB.out)) hb); clear HO326; clear HB; have HO326 := n0_; have HB := n1_; clear n0_ n1_; (try clear hb); (try clear hb2); (try clear hk); (try clear hi)) | ((with_reducible refine gate_callee (f := 27) rfl ?_); refine goesL_ (some 15) rfl rfl Tryz.func27 (by kernel_rfl) rfl #[.slice A0 l0.length c0] rfl (by (try simp only [List.map_toArray, List.map_cons, List.map_nil]); first | done | rfl | (simp only [List.length_drop, List.length_take]; rfl)) ?_; (with_reducible refine (impl_Game_values.calls k _ _ l0 t328 _ ?side1 ?side2 A5.out).mono ?_); (case side1 => repeat (first | exact (Kd.C_below HR0.out HB.out) | (with_reducible refine Kd.C_alloc ?_ _) | (with_reducible refine Kd.C_drewN ?_ _) | (with_reducible refine Kd.C_drew ?_))); (case side2 => exact HC0.out); rintro e w12 ⟨v329, rfl, ho0, hb⟩; refine ⟨_, rfl, ?_⟩; have n0_ := Aside0.mk (Kd.R_below (by (with_reducible repeat (first | apply Kd.R_alloc | apply Kd.R_drewN | apply Kd.R_drew)); exact HO326.out) hb); have n1_ := Aside0.mk (Kd.R_lower ho0 (below_size (by repeat (first | (with_reducible first | exact HB.out | apply below_alloc | apply pw_below_drewN | apply below_drew1) | exact HB.out)))); have n2_ := Aside0.mk (below_step (by repeat (first | (with_reducible first | exact HB.out | apply below_alloc | apply pw_below_drewN | apply below_drew1) | exact HB.out)) hb); clear HO326; clear HB; have HO326 := n0_; have HO330 := n1_; have HB := n2_; clear n0_ n1_ n2_; (try clear hb); (try clear hb2); (try clear hk); (try clear hi); (try clear ho0); obtain ⟨Ao13, co13, eo13⟩ := Kd.R_slice HO330.out; subst eo13; have p331 : 0 ≤ (a1 : Int) := of_decide_eq_true (by first | (with_reducible assumption) | assumption); have q331 : a1 < (t328.length : Int) := of_decide_eq_true (by first | (with_reducible assumption) | assumption); obtain ⟨ad331, e331, hx331_0⟩ := Kd.at_int (Kd.R_reads' HO330.out).2.2 a1 p331 q331; cases e331; replace p331 := eq_true p331; replace q331 := eq_true q331))
        go_ret2
        exact ⟨by first | rfl | (simp [errW_none, errW_some] <;> rfl) | (simp [*, errW_none, errW_some] <;> rfl), by repeat (first | (with_reducible first | exact HB.out | apply below_alloc | apply pw_below_drewN | apply below_drew1) | exact HB.out)⟩
      · rw [if_neg c7] at H
        exact absurd H (by simp)
    · rw [if_neg c6] at H
      exact absurd H (by simp)
  · rw [if_neg c4] at H
    have c4b0 : (t327 == 0) = false := beq_eq_false_iff_ne.mpr c4
    have c4b1 : (t327 != 0) = true := bne_iff_ne.mpr c4
    simp only [Option.some.injEq, Prod.mk.injEq] at H
    obtain ⟨rfl, rfl⟩ := H
    go_enter Tryz.func19, Tryz.ntmps19
    go_wp2_with (first | ((with_reducible refine gate_dst (N := 9) rfl ?_); refine Kd.R_lit (Kd.int .i64) _ 2 ?hg (N := 9) ?hd (xs := ([a1] : List Int)) (inner := [.int .i64 a1]) (ok := fun _ => True) (okp := fun _ => True) ?hr ?hp (fun _ hk => hk) trivial (Below.refl _ _) (Nat.le_refl _) (by simp) ?_; (case hd => rfl); (case hg => rfl); (case hr => first | (go_simp; done) | (go_simp; rfl)); (case hp => exact (Reps.one (show Kd.M (Kd.int .i64) _ _ _ a1 [.int .i64 a1] from rfl) (Reps.none _ _))); intro v325 w14 ho15 hb hg_ hnew_; clear hg_ hnew_; (first | rw [← Ny324.out] at ho15 | (simp only [Int.reduceToNat] at ho15; rw [← Ny324.out] at ho15)); have n0_ := Aside0.mk (Kd.R_lower ho15 (below_size (by repeat (first | (with_reducible first | exact HB.out | apply below_alloc | apply pw_below_drewN | apply below_drew1) | exact HB.out)))); have n1_ := Aside0.mk (below_step (by repeat (first | (with_reducible first | exact HB.out | apply below_alloc | apply pw_below_drewN | apply below_drew1) | exact HB.out)) hb); clear HB; have HO326 := n0_; have HB := n1_; clear n0_ n1_; clear hb ho15; obtain ⟨Ao16, co16, eo16⟩ := Kd.R_slice HO326.out; subst eo16) | ((with_reducible refine gate_callee (f := 42) rfl ?_); refine goesL_ (some 10) rfl rfl Tryz.func42 (by kernel_rfl) rfl #[.slice A0 l0.length c0, .slice Ao16 y324.length co16] rfl (by (try simp only [List.map_toArray, List.map_cons, List.map_nil]); first | done | rfl | (simp only [List.length_drop, List.length_take]; rfl)) ?_; (with_reducible refine (impl_placeCode.calls k _ _ l0 _ _ y324 t327 _ ?side1 ?side2 ?side3 ?side4 A3.out).mono ?_); (case side1 => repeat (first | exact (Kd.C_below HR0.out HB.out) | (with_reducible refine Kd.C_alloc ?_ _) | (with_reducible refine Kd.C_drewN ?_ _) | (with_reducible refine Kd.C_drew ?_))); (case side2 => exact HC0.out); (case side3 => repeat (first | exact (Kd.R_reads' HO326.out).2.2 | (with_reducible refine Kd.C_alloc ?_ _) | (with_reducible refine Kd.C_drewN ?_ _) | (with_reducible refine Kd.C_drew ?_))); (case side4 => exact (Kd.R_reads' HO326.out).2.1); rintro e w17 ⟨rfl, hb⟩; refine ⟨_, rfl, ?_⟩; have n0_ := Aside0.mk (Kd.R_below (by (with_reducible repeat (first | apply Kd.R_alloc | apply Kd.R_drewN | apply Kd.R_drew)); exact HO326.out) hb); have n1_ := Aside0.mk (below_step (by repeat (first | (with_reducible first | exact HB.out | apply below_alloc | apply pw_below_drewN | apply below_drew1) | exact HB.out)) hb); clear HO326; clear HB; have HO326 := n0_; have HB := n1_; clear n0_ n1_; (try clear hb); (try clear hb2); (try clear hk); (try clear hi)))
    go_ret2
    exact ⟨by first | rfl | (simp [errW_none, errW_some] <;> rfl) | (simp [*, errW_none, errW_some] <;> rfl), by repeat (first | (with_reducible first | exact HB.out | apply below_alloc | apply pw_below_drewN | apply below_drew1) | exact HB.out)⟩

/-! ### impl_PlusNim: function 20 -/
def impl_PlusNim.f (a0 : Int) (a1 : Int) : Option (Int) := some (Go.bits .xor .u16 a0 a1)
set_option maxHeartbeats 8000000 in
set_option maxRecDepth 100000 in
theorem impl_PlusNim.calls (a0 : Int) (a1 : Int) (r : Int) (w : World) (h : impl_PlusNim.f a0 a1 = some r) :
    Calls Tryz.prog 20 #[.int .u16 a0, .int .u16 a1] w fun e w' => e = .returned (.int .u16 r) ∧ Drawn0 w w' := by
  have H : (some (Go.bits .xor .u16 a0 a1)) = some r := h
  clear h
  obtain rfl := Option.some.inj H
  go_enter Tryz.func20, Tryz.ntmps20
  go_wp2
  go_ret
  exact ⟨by first | rfl | (simp; done) | (simp [*]; done), by repeat (first | exact Drawn0.refl _ | apply Drawn0.step)⟩

end Go.Proofs.YtojjakjpdkpmiaaGreatDoor.QFnPlaces
