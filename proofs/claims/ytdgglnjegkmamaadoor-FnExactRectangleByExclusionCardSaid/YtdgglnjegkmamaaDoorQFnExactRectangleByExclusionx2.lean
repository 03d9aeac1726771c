/- Written by the session's own program (wip/myprint.py), for the law FnExactRectangleByExclusion: each function as a plain Lean function, and its contract. -/
import Derived.Test.YtdgglnjegkmamaaDoorQFnExactRectangleByExclusionx0
import Derived.Test.YtdgglnjegkmamaaDoorQFnExactRectangleByExclusionx1
namespace Go.Proofs.YtdgglnjegkmamaaDoor.QFnExactRectangleByExclusion
open Go.RowKit Go.Proofs.YtdgglnjegkmamaaDoorW.PrintWords Go.Proofs.YtdgglnjegkmamaaDoorW.PrintLast Go.Proofs.YtdgglnjegkmamaaDoorW.PrintMore
attribute [local go_sem] max2_int min2_int max_two min_two max_three min_three max_four min_four   -- for this text's walks alone
set_option linter.unusedVariables false
set_option linter.unusedSimpArgs false

/-! ### spec_l03Least: function 44 -/
mutual
def spec_l03Least.l0 : Nat → List Int → List Bool → Int → Option (Int)
  | 0, _, _, _ => none
  | k + 1, x0, x3, x4 => if x4 < (x0.length : Int) then (if 0 ≤ x4 then (if (wrap64 (rd x0 x4)) < (x3.length : Int) then (if 0 ≤ (rd x0 x4) then (if (rd x0 x4) < (x3.length : Int) then (spec_l03Least.l0 k x0 (x3.set ((rd x0 x4) : Int).toNat true) (wrap64 (x4 + 1))) else (none)) else (none)) else (spec_l03Least.l0 k x0 x3 (wrap64 (x4 + 1)))) else (none)) else (spec_l03Least.l1 k x3 0)
def spec_l03Least.l1 : Nat → List Bool → Int → Option (Int)
  | 0, _, _ => none
  | k + 1, x3, x5 => if 0 ≤ x5 then (if x5 < (x3.length : Int) then (if rdOf false x3 x5 = true then (spec_l03Least.l1 k x3 (wrap64 (x5 + 1))) else (some (IntKind.u16.wrap (x5)))) else (none)) else (none)
end
def spec_l03Least.f (k : Nat) (l0 : List Int) : Option (Int) := if 0 ≤ (wrap64 ((l0.length : Int) + 1)) then (if (wrap64 ((l0.length : Int) + 1) : Int).toNat ≤ 281474976710656 then (spec_l03Least.l0 k l0 (List.replicate (wrap64 ((l0.length : Int) + 1) : Int).toNat false) 0) else (none)) else (none)
theorem spec_l03Least.mono_l : ∀ k, (∀ y0 y1 y2, LeO (spec_l03Least.l0 k y0 y1 y2) (spec_l03Least.l0 (k + 1) y0 y1 y2)) ∧ (∀ y0 y1, LeO (spec_l03Least.l1 k y0 y1) (spec_l03Least.l1 (k + 1) y0 y1))
  | 0 => ⟨fun _ _ _ r h => by simp [spec_l03Least.l0] at h, fun _ _ r h => by simp [spec_l03Least.l1] at h⟩
  | k + 1 => by
    obtain ⟨ih0, ih1⟩ := spec_l03Least.mono_l k
    refine ⟨?_, ?_⟩
    · intro y0 y1 y2
      unfold spec_l03Least.l0
      repeat' first
      | (with_reducible exact ih0 _ _ _)
      | (with_reducible exact ih1 _ _)
      | (with_reducible exact LeO.refl _)
      | (with_reducible exact LeO.none _)
      | (with_reducible refine LeO.ite ?_ ?_)
      | (with_reducible refine LeO.bind ?_ (fun _ => ?_))
      | exact ih0 _ _ _
      | exact ih1 _ _
      | exact LeO.none _
      | refine LeO.ite ?_ ?_
      | refine LeO.bind ?_ (fun _ => ?_)
    · intro y0 y1
      unfold spec_l03Least.l1
      repeat' first
      | (with_reducible exact ih0 _ _ _)
      | (with_reducible exact ih1 _ _)
      | (with_reducible exact LeO.refl _)
      | (with_reducible exact LeO.none _)
      | (with_reducible refine LeO.ite ?_ ?_)
      | (with_reducible refine LeO.bind ?_ (fun _ => ?_))
      | exact ih0 _ _ _
      | exact ih1 _ _
      | exact LeO.none _
      | refine LeO.ite ?_ ?_
      | refine LeO.bind ?_ (fun _ => ?_)
theorem spec_l03Least.mono : ∀ a0 k, LeO (spec_l03Least.f k a0) (spec_l03Least.f (k + 1) a0) := by
  intro a0 k
  obtain ⟨ih0, ih1⟩ := spec_l03Least.mono_l k
  unfold spec_l03Least.f
  repeat' first
      | (with_reducible exact ih0 _ _ _)
      | (with_reducible exact ih1 _ _)
      | (with_reducible exact LeO.refl _)
      | (with_reducible exact LeO.none _)
      | (with_reducible refine LeO.ite ?_ ?_)
      | (with_reducible refine LeO.bind ?_ (fun _ => ?_))
      | exact ih0 _ _ _
      | exact ih1 _ _
      | exact LeO.none _
      | refine LeO.ite ?_ ?_
      | refine LeO.bind ?_ (fun _ => ?_)
set_option maxHeartbeats 8000000 in
set_option maxRecDepth 100000 in
theorem spec_l03Least.calls (k : Nat) (A0 : Option Addr) (c0 : Nat) (l0 : List Int) (r : Int) (w : World) (hr0 : Kd.C (Kd.int .u16) w A0 l0.length l0) (hc0 : l0.length ≤ c0) (h : spec_l03Least.f k l0 = some r) :
    Calls Tryd.prog 44 #[.slice A0 l0.length c0] w fun e w' => e = .returned (.int .u16 r) ∧ Below w.heap.size w w' := by
  have HR0 := Aside0.mk hr0
  have HC0 := Aside0.mk hc0
  clear hr0 hc0
  have HB := Aside0.mk (Below.refl w.heap.size w)
  have H : (if 0 ≤ (wrap64 ((l0.length : Int) + 1)) then (if (wrap64 ((l0.length : Int) + 1) : Int).toNat ≤ 281474976710656 then (spec_l03Least.l0 k l0 (List.replicate (wrap64 ((l0.length : Int) + 1) : Int).toNat false) 0) else (none)) else (none)) = some r := h
  clear h
  obtain ⟨ji2, hji2⟩ : ∃ j_ : Int, (wrap64 ((l0.length : Int) + 1)) = j_ := ⟨_, rfl⟩
  replace H : (if 0 ≤ (ji2) then (if (ji2 : Int).toNat ≤ 281474976710656 then (spec_l03Least.l0 k l0 (List.replicate (ji2 : Int).toNat false) 0) else (none)) else (none)) = some r := by first | (rw [hji2] at H; exact H) | (simp only [hji2] at H ⊢; exact H)
  have hji2w : (IntKind.i64.wrap ((l0.length : Int) + 1)) = ji2 := (i64_w _).trans hji2
  by_cases c3 : 0 ≤ (ji2)
  · rw [if_pos c3] at H
    have c3b0 := eq_true c3
    have c3b1 : decide (0 ≤ (ji2)) = true := decide_eq_true c3
    clear c3
    by_cases c4 : (ji2 : Int).toNat ≤ 281474976710656
    · rw [if_pos c4] at H
      have c4b0 := eq_true c4
      have c4b1 : decide ((ji2 : Int).toNat ≤ 281474976710656) = true := decide_eq_true c4
      clear c4
      obtain ⟨y127, hy127⟩ : ∃ y_ : List Bool, y_ = (List.replicate (ji2 : Int).toNat false) := ⟨_, rfl⟩
      replace H : (spec_l03Least.l0 k l0 y127 0) = some r := by first | (rw [hy127]; with_reducible exact H) | (have H2_ := (Option.bind_some _ _).symm.trans H; rw [hy127]; with_reducible exact H2_) | (have H2_ := (Option.bind_some _ _).symm.trans H; with_reducible exact H2_) | with_reducible exact H | (rw [hy127]; exact H) | exact H
      have Ny127 := Aside0.mk hy127
      clear hy127
      have H' := Aside0.mk H
      clear H
      go_enter Tryd.func44, Tryd.ntmps44
      go_wp2_with (first | ((with_reducible refine gate_dst (N := 9) rfl ?_); refine Kd.R_make Kd.bool _ 4 rfl (N := 9) rfl 93 _ _ rfl ji2 rfl rfl Tryd.underlying93 (.bool false) 1 info4 rfl (by decide) (by omega) false (ok := fun _ => True) (okp := fun _ => True) rfl (fun _ hk => hk) trivial (of_decide_eq_true (by first | (with_reducible assumption) | assumption)) (Nat.le_trans (Nat.mul_le_mul_right _ (of_decide_eq_true (by first | (with_reducible assumption) | assumption) : ji2.toNat ≤ 281474976710656)) (by omega)) (Below.refl _ _) (Nat.le_refl _) ?_; intro v128 w5 ho6 hb hg_ hnew_; clear hg_ hnew_; (first | rw [← Ny127.out] at ho6 | (simp only [Int.reduceToNat] at ho6; rw [← Ny127.out] at ho6)); have n0_ := Aside0.mk (Kd.R_lower ho6 (below_size (by repeat (first | (with_reducible first | exact HB.out | apply below_alloc | apply pw_below_drewN | apply below_drew1) | exact HB.out)))); have n1_ := Aside0.mk (below_step (by repeat (first | (with_reducible first | exact HB.out | apply below_alloc | apply pw_below_drewN | apply below_drew1) | exact HB.out)) hb); clear HB; have HO129 := n0_; have HB := n1_; clear n0_ n1_; clear hb ho6))
      go_loopg [4] k (fun kq v4 w' => ∃ (x3_1 : List Bool) (x4_1 : Int), v4 = .int .i64 x4_1 ∧ Aside0 (spec_l03Least.l0 kq l0 x3_1 x4_1 = some r) ∧ Aside0 (kq ≤ k) ∧ Aside0 (Kd.R Kd.bool 4 w' w.heap.size (fun _ => True) v128 x3_1) ∧ Aside0 (Below w.heap.size w w'))
      case atStart => exact ⟨(y127), (0), (by first | rfl | (simp; done) | (simp [*]; done)), H', ⟨Nat.le_refl _⟩, ⟨by (with_reducible repeat (first | apply Kd.R_alloc | apply Kd.R_drewN | apply Kd.R_drew)); exact HO129.out⟩, ⟨by repeat (first | (with_reducible first | exact HB.out | apply below_alloc | apply pw_below_drewN | apply below_drew1) | exact HB.out)⟩⟩
      case round =>
        clear H'
        try clear p2
        try clear c3
        try clear c3b0
        try clear c3b1
        try clear c4
        try clear c4b0
        try clear c4b1
        try clear p6
        obtain ⟨x3_1, x4_1, rfl, HA, HK1, HO_3, HB⟩ := hrel
        cases gk with
        | zero => exact absurd HA.out (by simp [spec_l03Least.l0])
        | succ k1 =>
          have H := HA.out
          clear HA
          simp only [spec_l03Least.l0] at H
          by_cases c7 : x4_1 < (l0.length : Int)
          · rw [if_pos c7] at H
            have c7b0 : decide (x4_1 < (l0.length : Int)) = true := decide_eq_true c7
            clear c7
            by_cases c8 : 0 ≤ x4_1
            · rw [if_pos c8] at H
              have c8b0 : decide (0 ≤ x4_1) = true := decide_eq_true c8
              clear c8
              by_cases c9 : (wrap64 (rd l0 x4_1)) < (x3_1.length : Int)
              · rw [if_pos c9] at H
                have c9b0 : decide ((wrap64 (rd l0 x4_1)) < (x3_1.length : Int)) = true := decide_eq_true c9
                clear c9
                by_cases c10 : 0 ≤ (rd l0 x4_1)
                · rw [if_pos c10] at H
                  have c10b0 : decide (0 ≤ (rd l0 x4_1)) = true := decide_eq_true c10
                  clear c10
                  by_cases c11 : (rd l0 x4_1) < (x3_1.length : Int)
                  · rw [if_pos c11] at H
                    have c11b0 : decide ((rd l0 x4_1) < (x3_1.length : Int)) = true := decide_eq_true c11
                    clear c11
                    obtain ⟨y132, hy132⟩ : ∃ y_ : List Bool, y_ = (x3_1.set ((rd l0 x4_1) : Int).toNat true) := ⟨_, rfl⟩
                    replace H : (spec_l03Least.l0 k1 l0 y132 (wrap64 (x4_1 + 1))) = some r := by first | (rw [hy132]; with_reducible exact H) | (have H2_ := (Option.bind_some _ _).symm.trans H; rw [hy132]; with_reducible exact H2_) | (have H2_ := (Option.bind_some _ _).symm.trans H; with_reducible exact H2_) | with_reducible exact H | (rw [hy132]; exact H) | exact H
                    have Ny132 := Aside0.mk hy132
                    clear hy132
                    have H' := Aside0.mk H
                    clear H
                    have p130 : 0 ≤ (x4_1 : Int) := of_decide_eq_true (by first | (with_reducible assumption) | assumption)
                    have q130 : x4_1 < (l0.length : Int) := of_decide_eq_true (by first | (with_reducible assumption) | assumption)
                    obtain ⟨ad130, e130, hx130_0⟩ := Kd.at_int HR0.out x4_1 p130 q130
                    cases e130
                    replace hx130_0 := (HB.out.cell (World.block_lt_of_cell? w _ hx130_0)).trans hx130_0
                    replace p130 := eq_true p130
                    replace q130 := eq_true q130
                    obtain ⟨Ao13, co13, eo13⟩ := Kd.R_slice HO_3.out
                    subst eo13
                    have p131 : 0 ≤ (x4_1 : Int) := of_decide_eq_true (by first | (with_reducible assumption) | assumption)
                    have q131 : x4_1 < (l0.length : Int) := of_decide_eq_true (by first | (with_reducible assumption) | assumption)
                    obtain ⟨ad131, e131, hx131_0⟩ := Kd.at_int HR0.out x4_1 p131 q131
                    obtain rfl : ad130 = ad131 := (by injection e131)
                    replace hx131_0 := (HB.out.cell (World.block_lt_of_cell? w _ hx131_0)).trans hx131_0
                    replace p131 := eq_true p131
                    replace q131 := eq_true q131
                    have p12 : 0 ≤ ((rd l0 x4_1) : Int) := of_decide_eq_true (by first | (with_reducible assumption) | assumption)
                    have q12 : ((rd l0 x4_1) : Int) < ((x3_1.length : Int) : Int) := of_decide_eq_true (by first | (with_reducible assumption) | assumption)
                    obtain ⟨go12, co12, eo12, gb12, gl12, cl12, HG12⟩ := Kd.R_form HO_3.out (by omega)
                    (first | cases eo12 | (injection eo12 with ea_ en_ ec_; (first | subst ea_ | (injection ea_ with ea_; subst ea_)); subst ec_; clear en_))
                    have GB12 := Aside0.mk gb12
                    have GG12 := Aside0.mk HG12
                    clear gb12 gl12 HG12
                    obtain ⟨hx12_0, hf12_0⟩ := Kd.R_celln false HO_3.out ((rd l0 x4_1) : Int) p12 q12
                    replace p12 := eq_true p12
                    replace q12 := eq_true q12
                    have HP14 := Kd.R_putg HO_3.out ((rd l0 x4_1) : Int) true
                    go_wp2_with (first | ((with_reducible refine gate_store (t := 4) (p := 29) rfl ?_); refine store_event (t := 4) (p := 29) (v := ?vo_w15) (w1 := (wr.setCell ⟨go12, ((rd l0 x4_1) : Int).toNat, none⟩ (.bool true))) ?hg ?ho ?hn ?hr ?_; (case ho => rfl); (case hg => rfl); (case hn => rfl); (case hr => first | (go_simp; done) | (go_simp; rfl)); intro w15 hw; have hg : wr.grownBy w15 (some go12) := (by rw [hw]; exact HP14.2); have hp_ : Kd.R Kd.bool 4 w15 w.heap.size (fun _ => True) (.slice (some ⟨go12, 0, none⟩) x3_1.length co13) y132 := (by rw [hw, Ny132.out]; exact HP14.1); clear HP14; have n0_ := Aside0.mk (hp_); have n1_ := Aside0.mk ((by rw [hw]; exact below_set (HB.out) GB12.out : Below w.heap.size w w15)); clear HO_3; clear HB; have HO_3 := n0_; have HB := n1_; clear n0_ n1_; clear hg hw hp_))
                    go_roundg k1
                    case measure => have := HK1.out; omega
                    case rel => exact ⟨(y132), (wrap64 (x4_1 + 1)), (by first | rfl | (simp; done) | (simp [*]; done)), H', ⟨by have := HK1.out; omega⟩, ⟨by (with_reducible repeat (first | apply Kd.R_alloc | apply Kd.R_drewN | apply Kd.R_drew)); exact HO_3.out⟩, ⟨by repeat (first | (with_reducible first | exact HB.out | apply below_alloc | apply pw_below_drewN | apply below_drew1) | exact HB.out)⟩⟩
                  · rw [if_neg c11] at H
                    exact absurd H (by simp)
                · rw [if_neg c10] at H
                  exact absurd H (by simp)
              · rw [if_neg c9] at H
                have c9b0 : decide ((wrap64 (rd l0 x4_1)) < (x3_1.length : Int)) = false := decide_eq_false c9
                clear c9
                have H' := Aside0.mk H
                clear H
                have p130 : 0 ≤ (x4_1 : Int) := of_decide_eq_true (by first | (with_reducible assumption) | assumption)
                have q130 : x4_1 < (l0.length : Int) := of_decide_eq_true (by first | (with_reducible assumption) | assumption)
                obtain ⟨ad130, e130, hx130_0⟩ := Kd.at_int HR0.out x4_1 p130 q130
                cases e130
                replace hx130_0 := (HB.out.cell (World.block_lt_of_cell? w _ hx130_0)).trans hx130_0
                replace p130 := eq_true p130
                replace q130 := eq_true q130
                obtain ⟨Ao16, co16, eo16⟩ := Kd.R_slice HO_3.out
                subst eo16
                go_wp2
                go_roundg k1
                case measure => have := HK1.out; omega
                case rel => exact ⟨(x3_1), (wrap64 (x4_1 + 1)), (by first | rfl | (simp; done) | (simp [*]; done)), H', ⟨by have := HK1.out; omega⟩, ⟨by (with_reducible repeat (first | apply Kd.R_alloc | apply Kd.R_drewN | apply Kd.R_drew)); exact HO_3.out⟩, ⟨by repeat (first | (with_reducible first | exact HB.out | apply below_alloc | apply pw_below_drewN | apply below_drew1) | exact HB.out)⟩⟩
            · rw [if_neg c8] at H
              exact absurd H (by simp)
          · rw [if_neg c7] at H
            have c7b0 : decide (x4_1 < (l0.length : Int)) = false := decide_eq_false c7
            clear c7
            have H' := Aside0.mk H
            clear H
            go_wp2
            go_loopg [5] k1 (fun kq v5 w' => ∃ (x5_2 : Int), v5 = .int .i64 x5_2 ∧ Aside0 (spec_l03Least.l1 kq x3_1 x5_2 = some r) ∧ Aside0 (kq ≤ k1) ∧ Aside0 (Kd.R Kd.bool 4 w' w.heap.size (fun _ => True) v128 x3_1) ∧ Aside0 (Below w.heap.size w w'))
            case atStart => exact ⟨(0), (by first | rfl | (simp; done) | (simp [*]; done)), H', ⟨Nat.le_refl _⟩, ⟨by (with_reducible repeat (first | apply Kd.R_alloc | apply Kd.R_drewN | apply Kd.R_drew)); exact HO_3.out⟩, ⟨by repeat (first | (with_reducible first | exact HB.out | apply below_alloc | apply pw_below_drewN | apply below_drew1) | exact HB.out)⟩⟩
            case round =>
              clear H'
              try clear c1
              try clear p1
              try clear q1
              try clear hx1
              try clear hf1
              try clear p2
              try clear c3
              try clear c3b0
              try clear c3b1
              try clear c4
              try clear c4b0
              try clear c4b1
              try clear p6
              try clear c7
              try clear c7b0
              try clear c8
              try clear c8b0
              try clear c9
              try clear c9b0
              try clear c10
              try clear c10b0
              try clear c11
              try clear c11b0
              try clear p12
              try clear q12
              try clear hx12
              try clear hf12
              try clear p13
              try clear q13
              try clear hx13
              try clear hx12_0
              try clear hx130_0
              try clear hx131_0
              try clear p12
              try clear p130
              try clear p131
              try clear p2
              try clear p6
              try clear q12
              try clear q130
              try clear q131
              obtain ⟨x5_2, rfl, HA, HK2, HO_3, HB⟩ := hrel
              cases gk with
              | zero => exact absurd HA.out (by simp [spec_l03Least.l1])
              | succ k2 =>
                have H := HA.out
                clear HA
                simp only [spec_l03Least.l1] at H
                by_cases c17 : 0 ≤ x5_2
                · rw [if_pos c17] at H
                  have c17b0 : decide (0 ≤ x5_2) = true := decide_eq_true c17
                  clear c17
                  by_cases c18 : x5_2 < (x3_1.length : Int)
                  · rw [if_pos c18] at H
                    have c18b0 : decide (x5_2 < (x3_1.length : Int)) = true := decide_eq_true c18
                    clear c18
                    obtain ⟨bq19, hbq19⟩ : ∃ b_ : Bool, b_ = (rdOf false x3_1 x5_2) := ⟨_, rfl⟩
                    replace H : (if bq19 = true then (spec_l03Least.l1 k2 x3_1 (wrap64 (x5_2 + 1))) else (some (IntKind.u16.wrap (x5_2)))) = some r := by rw [← hbq19] at H; exact H
                    have Nbq19 := Aside0.mk hbq19
                    clear hbq19
                    by_cases c20 : bq19 = true
                    · subst c20
                      have H1 : (spec_l03Least.l1 k2 x3_1 (wrap64 (x5_2 + 1))) = some r := by rw [if_pos rfl] at H; exact H
                      clear H
                      have H := H1
                      clear H1
                      have H' := Aside0.mk H
                      clear H
                      obtain ⟨Ao21, co21, eo21⟩ := Kd.R_slice HO_3.out
                      subst eo21
                      have p133 : 0 ≤ (x5_2 : Int) := of_decide_eq_true (by first | (with_reducible assumption) | assumption)
                      have q133 : x5_2 < (x3_1.length : Int) := of_decide_eq_true (by first | (with_reducible assumption) | assumption)
                      obtain ⟨ad133, e133, hx133_0⟩ := Kd.at_bool (Kd.R_reads' HO_3.out).2.2 x5_2 p133 q133
                      (try rw [← Nbq19.out] at hx133_0)
                      cases e133
                      replace p133 := eq_true p133
                      replace q133 := eq_true q133
                      go_wp2
                      go_roundg k2
                      case measure => have := HK1.out; have := HK2.out; omega
                      case rel => exact ⟨(wrap64 (x5_2 + 1)), (by first | rfl | (simp; done) | (simp [*]; done)), H', ⟨by have := HK1.out; have := HK2.out; omega⟩, ⟨by (with_reducible repeat (first | apply Kd.R_alloc | apply Kd.R_drewN | apply Kd.R_drew)); exact HO_3.out⟩, ⟨by repeat (first | (with_reducible first | exact HB.out | apply below_alloc | apply pw_below_drewN | apply below_drew1) | exact HB.out)⟩⟩
                    · replace c20 := Bool.eq_false_iff.mpr c20
                      subst c20
                      have H1 : (some (IntKind.u16.wrap (x5_2))) = some r := by rw [if_neg (show ¬ (false = true) by decide)] at H; exact H
                      clear H
                      have H := H1
                      clear H1
                      obtain rfl := Option.some.inj H
                      obtain ⟨Ao22, co22, eo22⟩ := Kd.R_slice HO_3.out
                      subst eo22
                      have p133 : 0 ≤ (x5_2 : Int) := of_decide_eq_true (by first | (with_reducible assumption) | assumption)
                      have q133 : x5_2 < (x3_1.length : Int) := of_decide_eq_true (by first | (with_reducible assumption) | assumption)
                      obtain ⟨ad133, e133, hx133_0⟩ := Kd.at_bool (Kd.R_reads' HO_3.out).2.2 x5_2 p133 q133
                      (try rw [← Nbq19.out] at hx133_0)
                      cases e133
                      replace p133 := eq_true p133
                      replace q133 := eq_true q133
                      go_wp2
                      go_ret
                      exact ⟨by first | rfl | (simp [errW_none, errW_some] <;> rfl) | (simp only [← hji2]; first | rfl | (simp [errW_none, errW_some] <;> rfl)) | (simp [*, errW_none, errW_some] <;> rfl), by repeat (first | (with_reducible first | exact HB.out | apply below_alloc | apply pw_below_drewN | apply below_drew1) | exact HB.out)⟩
                  · rw [if_neg c18] at H
                    exact absurd H (by simp)
                · rw [if_neg c17] at H
                  exact absurd H (by simp)
    · rw [if_neg c4] at H
      exact absurd H (by simp)
  · rw [if_neg c3] at H
    exact absurd H (by simp)

/-! ### spec_l04Excluded: function 27 -/
/-- The cells of a board of 5 by 5. -/
def gc5 (G : List Int) : Array Value := (G.map (Value.int .u16)).toArray
theorem gc5_at (G : List Int) (j : Nat) (h : j < G.length) : (gc5 G)[j]? = some (.int .u16 (rd G (j : Int))) := by
  unfold gc5
  simp [rd, List.getD_eq_getElem?_getD, List.getElem?_eq_getElem h, h]
theorem gc5_set (G : List Int) (j : Nat) (x : Int) : (gc5 G).setIfInBounds j (.int .u16 x) = gc5 (G.set j x) := by
  unfold gc5
  rw [List.setIfInBounds_toArray, List.map_set]
/-- Within the loops: the board's box, the list that is gathered, and both lists of turns. -/
structure GS (w0 W : World) (b S gL : Nat) (G : List Int) (vL vA vB : Value) (L TA TB : List Int) : Prop where
  hB : Below w0.heap.size w0 W
  hb : w0.heap.size ≤ b
  hbS : b < S
  hbL : b ≠ gL
  hS : S ≤ W.heap.size
  hG : W.heap[b]? = some (.cells (gc5 G) 64)
  hL : Kd.R (Kd.int .u16) 29 W w0.heap.size (fun k => k = gL ∨ S ≤ k) vL L
  hA : Kd.R (Kd.int .u32) 67 W w0.heap.size (fun k => k < S ∧ k ≠ gL) vA TA
  hD : Kd.R (Kd.int .u32) 67 W w0.heap.size (fun k => k < S ∧ k ≠ gL) vB TB
theorem GS.drewN {w0 W : World} {b S gL : Nat} {G : List Int} {vL vA vB : Value} {L TA TB : List Int} (h : GS w0 W b S gL G vL vA vB L TA TB) (n : Nat) : GS w0 (W.drewN n) b S gL G vL vA vB L TA TB :=
  ⟨pw_below_drewN h.hB n, h.hb, h.hbS, h.hbL, h.hS, h.hG, Kd.R_drewN h.hL n, Kd.R_drewN h.hA n, Kd.R_drewN h.hD n⟩
/-- Behind an append to the list. -/
theorem GS.app {w0 W w1 : World} {b S gL : Nat} {G : List Int} {vL vA vB v1 : Value} {L L' TA TB : List Int} (h : GS w0 W b S gL G vL vA vB L TA TB)
    (ho : Kd.R (Kd.int .u16) 29 w1 w0.heap.size (fun k => k = gL ∨ S ≤ k) v1 L') (hb : Below w0.heap.size w0 w1) (hg : W.grownBy w1 vL.ownBlock) : GS w0 w1 b S gL G v1 vA vB L' TA TB := by
  have hne : ∀ k, k < S ∧ k ≠ gL → some k ≠ vL.ownBlock := fun k hk e => by
    rcases h.hL.1 k e.symm with q | q
    · exact hk.2 q
    · omega
  have e1 : w1.heap[b]? = W.heap[b]? := hg.block b (lt_of_block h.hG) (hne b ⟨h.hbS, h.hbL⟩)
  exact ⟨hb, h.hb, h.hbS, h.hbL, Nat.le_trans h.hS hg.size, e1.trans h.hG, ho, Kd.R_grown h.hA hg hne, Kd.R_grown h.hD hg hne⟩
def bitU (a : Int) (i : Nat) : Bool := decide (Go.bits .and .u32 (shr .u32 a (i : Int)) 1 = 1)
def exOk (a d : Int) (c r n : Nat) : Bool := (decide (n % 5 ≠ c) || decide (n / 5 ≠ r)) && (bitU a (n % 5) && bitU d (n / 5))
def exSum (G : List Int) (a d : Int) (c r : Nat) : Nat → Nat → Int → Int
  | 0, _, s => s
  | e + 1, n, s => exSum G a d c r e (n + 1) (if exOk a d c r n = true then Go.bits .xor .u16 s (rd G (n : Int)) else s)
def exB (G : List Int) (a : Int) (c r : Nat) : List Int → List Int → List Int
  | [], L => L
  | d :: t, L => exB G a c r t (L ++ [exSum G a d c r 25 0 0])
def exA (G : List Int) (c r : Nat) (TB : List Int) : List Int → List Int → List Int
  | [], L => L
  | a :: t, L => exA G c r TB t (exB G a c r TB L)
def exC (k : Nat) (ac dn : Int) (r : Nat) : Nat → Nat → List Int → Option (List Int)
  | 0, _, G => some G
  | d + 1, c, G => (spec_l04Turns.f k ac (c : Int)).bind fun TA => (spec_l04Turns.f k dn (r : Int)).bind fun TB => if TA.length ≤ 1000 ∧ TB.length ≤ 1000 then ((spec_l03Least.f k (exA G c r TB TA [])).bind fun v => exC k ac dn r d (c + 1) (G.set (r * 5 + c) v)) else none
def exR (k : Nat) (ac dn : Int) (X : Nat) : Nat → Nat → List Int → Option (List Int)
  | 0, _, G => some G
  | d + 1, r, G => (exC k ac dn r (X + 1) 0 G).bind fun G' => exR k ac dn X d (r + 1) G'
def g0 : List Int := List.replicate 25 0
/-- The value of a coin on a board, by exclusion. -/
def spec_l04Excluded.f (k : Nat) (a0 a1 a2 a3 : Int) : Option Int := if 0 ≤ a2 ∧ a2 ≤ 4 ∧ 0 ≤ a3 ∧ a3 ≤ 4 then ((exR k a0 a1 a2.toNat (a3.toNat + 1) 0 g0).bind fun G => some (rd G ((a3.toNat * 5 + a2.toNat : Nat) : Int))) else none
theorem exC_mono (k : Nat) (ac dn : Int) (r : Nat) : ∀ d c G, LeO (exC k ac dn r d c G) (exC (k + 1) ac dn r d c G) := by
  intro d
  induction d with
  | zero => intro c G; exact LeO.refl _
  | succ d ih =>
    intro c G
    refine LeO.bind (spec_l04Turns.mono _ _ _) (fun TA => LeO.bind (spec_l04Turns.mono _ _ _) (fun TB => ?_))
    by_cases h : TA.length ≤ 1000 ∧ TB.length ≤ 1000
    · rw [if_pos h, if_pos h]
      exact LeO.bind (spec_l03Least.mono _ _) (fun v => ih _ _)
    · rw [if_neg h, if_neg h]
      exact LeO.refl _
theorem exR_mono (k : Nat) (ac dn : Int) (X : Nat) : ∀ d r G, LeO (exR k ac dn X d r G) (exR (k + 1) ac dn X d r G) := by
  intro d
  induction d with
  | zero => intro r G; exact LeO.refl _
  | succ d ih => intro r G; exact LeO.bind (exC_mono _ _ _ _ _ _ _) (fun G' => ih _ _)
theorem spec_l04Excluded.mono : ∀ a0 a1 a2 a3 k, LeO (spec_l04Excluded.f k a0 a1 a2 a3) (spec_l04Excluded.f (k + 1) a0 a1 a2 a3) := by
  intro a0 a1 a2 a3 k
  unfold spec_l04Excluded.f
  by_cases h : 0 ≤ a2 ∧ a2 ≤ 4 ∧ 0 ≤ a3 ∧ a3 ≤ 4
  · rw [if_pos h, if_pos h]
    exact LeO.bind (exR_mono _ _ _ _ _ _ _) (fun _ => LeO.refl _)
  · rw [if_neg h, if_neg h]
    exact LeO.refl _
theorem g5_zero (w : World) : (zeroValue 64).run Tryd.prog w = .ok (.agg (gc5 g0)) w := by rw [Tryd.zeroValue64]; rfl
theorem g5_size : (gc5 g0).size = 25 := by simp [gc5, g0]
theorem g5_ne : (gc5 g0 = #[]) = False := by
  apply eq_false
  intro h
  have := congrArg Array.size h
  rw [g5_size] at this
  simp at this
theorem g5_all : (gc5 g0).all (·.oneCell') = true := by
  rw [Array.all_eq_true_iff_forall_mem]
  intro x hx
  simp only [gc5, List.mem_toArray, List.mem_map] at hx
  obtain ⟨y, _, rfl⟩ := hx
  rfl
theorem ex_info : (Tryd.prog.info? 29).map (fun i => (i.zero, i.size, i.bytes)) = some (some (.int .u16 0), 1, 2) := by kernel_rfl
theorem g5_info : (Tryd.prog.info? 64).map (·.size) = some 25 := by kernel_rfl
/-- The board's box alone. -/
structure BS (w W : World) (G : List Int) : Prop where
  hB : Below w.heap.size w W
  hG : W.heap[w.heap.size]? = some (.cells (gc5 G) 64)
theorem BS.start (w : World) : BS w (w.alloc (.cells (gc5 g0) 64)) g0 := ⟨below_alloc (Below.refl _ _) _, heap_alloc_new w _⟩
theorem BS.startd (w : World) (n : Nat) : BS w ((w.drewN n).alloc (.cells (gc5 g0) 64)) g0 := ⟨below_alloc (pw_below_drewN (Below.refl _ _) n) _, heap_alloc_new (w.drewN n) _⟩
theorem BS.row {w W : World} {G G' : List Int} (h : BS w W G) : BS w (W.setRow w.heap.size (gc5 G')) G' :=
  ⟨⟨h.hB.os, h.hB.tape, h.hB.output, by have := h.hB.size; simpa [World.setRow] using this, fun j hj => (setRow_other _ _ _ _ (by omega)).trans (h.hB.block j hj)⟩, setRow_heap _ _ _ _ _ _ h.hG⟩
theorem ex_empty (W : World) (base g : Nat) (ok : Nat → Prop) (h : W.heap[g]? = some (.cells #[] 29)) (hb : base ≤ g) (hok : ok g) : Kd.R (Kd.int .u16) 29 W base ok (.slice (some ⟨g, 0, none⟩) 0 0) [] :=
  ⟨fun k hk => by
    have e : g = k := by simpa [Value.ownBlock] using hk
    rw [← e]
    exact hok, [], ⟨rfl, .inr ⟨g, 0, #[], rfl, hb, h, Nat.le_refl _, Nat.zero_le _, rfl, rfl⟩⟩, Reps.none _ _⟩
/-- The state as the list is begun and both lists of turns are there. -/
theorem GS.begun {w W W1 W2 : World} {G : List Int} (h : BS w W G) {vA vB : Value} {TA TB : List Int} (hA : Kd.R (Kd.int .u32) 67 W1 (W.heap.size + 1) (fun _ => True) vA TA) (hB1 : Below (W.heap.size + 1) (W.alloc (.cells #[] 29)) W1)
    (hD : Kd.R (Kd.int .u32) 67 W2 W1.heap.size (fun _ => True) vB TB) (hB2 : Below W1.heap.size W1 W2) : GS w W2 w.heap.size W2.heap.size W.heap.size G (.slice (some ⟨W.heap.size, 0, none⟩) 0 0) vA vB [] TA TB := by
  have hlt := lt_of_block h.hG
  have s1 : (W.alloc (.cells #[] 29)).heap.size = W.heap.size + 1 := by simp
  have z1 := hB1.size
  have z2 := hB2.size
  rw [s1] at z1
  have hb1 : Below w.heap.size w W1 := below_step (below_alloc h.hB _) (by rw [s1]; exact hB1)
  have hb2 : Below w.heap.size w W2 := below_step hb1 hB2
  have e1 : W2.heap[w.heap.size]? = some (.cells (gc5 G) 64) := by
    rw [hB2.block _ (by omega), hB1.block _ (by omega), heap_alloc_old _ _ hlt]
    exact h.hG
  have e2 : W2.heap[W.heap.size]? = some (.cells #[] 29) := by
    rw [hB2.block _ (by omega), hB1.block _ (by omega)]
    exact heap_alloc_new W _
  have hz := h.hB.size
  refine ⟨hb2, Nat.le_refl _, by omega, by omega, Nat.le_refl _, e1, ex_empty _ _ _ _ e2 hz (.inl rfl), ?_, ?_⟩
  · refine Kd.R_lower (Kd.R_mono (Kd.R_move (Kd.R_bound hA) (fun k hk => hB2.block k hk.2.2.1)) (fun k hk => ⟨by omega, by omega⟩)) (by omega)
  · exact Kd.R_lower (Kd.R_mono (Kd.R_bound hD) (fun k hk => ⟨hk.2.2.1, by omega⟩)) (by omega)
theorem rd_get {l : List Int} {j : Nat} (h : j < l.length) : rd l (j : Int) = l[j] := by simp [rd, List.getD_eq_getElem?_getD, List.getElem?_eq_getElem h]
theorem exB_cons (G : List Int) (a : Int) (c r : Nat) (d : Int) (t L : List Int) : exB G a c r (d :: t) L = exB G a c r t (L ++ [exSum G a d c r 25 0 0]) := rfl
theorem exA_cons (G : List Int) (c r : Nat) (TB : List Int) (a : Int) (t L : List Int) : exA G c r TB (a :: t) L = exA G c r TB t (exB G a c r TB L) := rfl
theorem ex_len {TA TB L : List Int} {i j : Nat} (h1 : TA.length ≤ 1000) (h2 : TB.length ≤ 1000) (hi : i < TA.length) (hj : j < TB.length) (hl : L.length = i * TB.length + j) : (L.length + 1) * 2 ≤ 140737488355328 := by
  have : i * TB.length ≤ 1000 * 1000 := Nat.mul_le_mul (by omega) h2
  omega
theorem BS.cells {w W W5 : World} {G : List Int} (h : BS w W G) (hb : Below W.heap.size W W5) (hG : G.length = 25) {j : Nat} (hj : j < 25) : W5.cell? ⟨w.heap.size, j, none⟩ = some (.int .u16 (rd G (j : Int))) ∧ W5.frozen? ⟨w.heap.size, j, none⟩ = false := by
  have e : W5.heap[w.heap.size]? = some (.cells (gc5 G) 64) := (hb.block _ (lt_of_block h.hG)).trans h.hG
  exact ⟨(cell_of_row _ _ _ _ _ _ e).trans (gc5_at G j (by omega)), frozen_of_row _ _ _ _ _ e⟩
theorem BS.put {w W W5 : World} {G : List Int} (h : BS w W G) (hb : Below W.heap.size W W5) (j : Nat) (x : Int) : BS w (W5.setCell ⟨w.heap.size, j, none⟩ (.int .u16 x)) (G.set j x) := by
  have e : W5.heap[w.heap.size]? = some (.cells (gc5 G) 64) := (hb.block _ (lt_of_block h.hG)).trans h.hG
  exact ⟨(below_step h.hB hb).setCell (Nat.le_refl _) _, by rw [heap_setCell_same _ _ _ _ _ _ e, gc5_set]⟩
set_option maxHeartbeats 3200000 in
set_option maxRecDepth 100000 in
theorem spec_l04Excluded.calls (k : Nat) (a0 : Int) (a1 : Int) (a2 : Int) (a3 : Int) (r : Int) (w : World) (h : spec_l04Excluded.f k a0 a1 a2 a3 = some r) :
    Calls Tryd.prog 27 #[.int .i64 a0, .int .i64 a1, .int .i64 a2, .int .i64 a3] w fun e w' => e = .returned (.int .u16 r) ∧ Below w.heap.size w w' := by
  unfold spec_l04Excluded.f at h
  by_cases hc : 0 ≤ a2 ∧ a2 ≤ 4 ∧ 0 ≤ a3 ∧ a3 ≤ 4
  · rw [if_pos hc] at h
    obtain ⟨X, rfl⟩ := Int.eq_ofNat_of_zero_le hc.1
    obtain ⟨Y, rfl⟩ := Int.eq_ofNat_of_zero_le hc.2.2.1
    have hX : X ≤ 4 := by omega
    have hY : Y ≤ 4 := by omega
    rw [Int.toNat_natCast, Int.toNat_natCast] at h
    obtain ⟨GF, g1, g2⟩ := Option.bind_eq_some_iff.mp h
    have g3 := Option.some.inj g2
    have G1 := Aside0.mk g1
    have G3 := Aside0.mk g3
    clear h g1 g2 g3 hc
    have HS1 := Aside0.mk (BS.start w)
    have hz := g5_zero
    have hne := g5_ne
    have hzs := g5_size
    have HZ := Aside0.mk hzs
    go_enter Tryd.func27, Tryd.ntmps27
    go_wp2_with (refine wpList_store_row rfl 64 _ _ rfl w.heap.size _ rfl rfl 64 _ HS1.out.hG (g5_info.trans (congrArg some HZ.out.symm)) rfl g5_all ?_)
    have HS0 := Aside0.mk (BS.row (G' := g0) HS1.out)
    clear hz hne hzs HZ HS1
    generalize (w.alloc (.cells (gc5 g0) 64)).setRow w.heap.size (gc5 g0) = wz at HS0 ⊢
    go_loopw [10] (fun v10 w' => ∃ (n : Nat) (G : List Int), n ≤ Y + 1 ∧ v10 = .int .i64 n ∧ Aside0 (exR k a0 a1 X (Y + 1 - n) n G = some GF) ∧ Aside0 (G.length = 25) ∧ Aside0 (BS w w' G)) (fun v10 w' => Y + 1 - (intOf v10).toNat)
    case atStart => exact ⟨0, _, Nat.zero_le _, rfl, G1, ⟨rfl⟩, HS0⟩
    case round =>
      clear HS0 G1
      obtain ⟨n, G, hn, rfl, HR, HG, HS⟩ := hrel
      by_cases hlt : n < Y + 1
      · have hlt2 : (n : Int) ≤ (Y : Int) := by omega
        have hr := HR.out
        rw [show Y + 1 - n = (Y - n) + 1 by omega] at hr
        unfold exR at hr
        obtain ⟨GR, hr1, hr2⟩ := Option.bind_eq_some_iff.mp hr
        have HR1 := Aside0.mk hr1
        have HR2 := Aside0.mk hr2
        clear hr hr1 hr2 HR
        go_wp2_with fail
        go_loopw [11] (fun v11 w' => ∃ (c : Nat) (G : List Int), c ≤ X + 1 ∧ v11 = .int .i64 c ∧ Aside0 (exC k a0 a1 n (X + 1 - c) c G = some GR) ∧ Aside0 (G.length = 25) ∧ Aside0 (BS w w' G)) (fun v11 w' => X + 1 - (intOf v11).toNat)
        case atStart => exact ⟨0, G, Nat.zero_le _, rfl, HR1, HG, HS⟩
        case round =>
          clear HS HR1 HG
          clear G
          obtain ⟨c, G, hcn, rfl, HC, HG, HS⟩ := hrel
          by_cases hct : c < X + 1
          · have hct2 : (c : Int) ≤ (X : Int) := by omega
            have hr := HC.out
            rw [show X + 1 - c = (X - c) + 1 by omega] at hr
            unfold exC at hr
            obtain ⟨TA, t1, hr⟩ := Option.bind_eq_some_iff.mp hr
            obtain ⟨TB, t2, hr⟩ := Option.bind_eq_some_iff.mp hr
            by_cases hTT : TA.length ≤ 1000 ∧ TB.length ≤ 1000
            · rw [if_pos hTT] at hr
              obtain ⟨v, t3, t4⟩ := Option.bind_eq_some_iff.mp hr
              have T1 := Aside0.mk t1
              have T2 := Aside0.mk t2
              have T3 := Aside0.mk t3
              have T4 := Aside0.mk t4
              have HTT := Aside0.mk hTT
              clear hr t1 t2 t3 t4 hTT HC
              go_wp2_with fail
              go_at_call 43
              refine (spec_l04Turns.calls k a0 _ TA _ T1.out).mono ?_
              rintro e w1 ⟨vA, rfl, hA, hB1⟩
              have z1 : (wr.alloc (.cells #[] 29)).heap.size = wr.heap.size + 1 := by simp
              rw [z1] at hA hB1
              have HA := Aside0.mk hA
              have HB1 := Aside0.mk hB1
              clear hA hB1 z1
              go_wp2_with fail
              go_at_call 43
              refine (spec_l04Turns.calls k a1 _ TB _ T2.out).mono ?_
              rintro e w2 ⟨vB, rfl, hD, hB2⟩
              have HGS := Aside0.mk (GS.begun HS.out HA.out HB1.out hD hB2)
              obtain ⟨A1, c1, rfl⟩ := Kd.R_slice HA.out
              obtain ⟨A2, c2, rfl⟩ := Kd.R_slice hD
              clear hD hB2 HA HB1
              generalize hgL : wr.heap.size = gL at HGS ⊢
              clear hgL HS
              generalize hSz : w2.heap.size = S at HGS
              clear hSz
              go_wp2_with fail
              go_loopw [12, 15] (fun v12 v15 w' => ∃ (i : Nat) (L : List Int), i ≤ TA.length ∧ v15 = .int .i64 i ∧ Aside0 (exA G c n TB (TA.drop i) L = exA G c n TB TA []) ∧ Aside0 (L.length = i * TB.length) ∧ Aside0 (GS w w' w.heap.size S gL G v12 (.slice A1 TA.length c1) (.slice A2 TB.length c2) L TA TB)) (fun v12 v15 w' => TA.length - (intOf v15).toNat)
              case atStart => exact ⟨0, [], Nat.zero_le _, rfl, ⟨rfl⟩, ⟨by simp⟩, HGS⟩
              case round =>
                clear HGS
                obtain ⟨i, L, hi, rfl, HA, HLL, HGS⟩ := hrel
                by_cases hit : i < TA.length
                · go_wp2_with fail
                  go_loopw [12, 16] (fun v12 v16 w' => ∃ (j : Nat) (L2 : List Int), j ≤ TB.length ∧ v16 = .int .i64 j ∧ Aside0 (exB G (rd TA (i : Int)) c n (TB.drop j) L2 = exB G (rd TA (i : Int)) c n TB L) ∧ Aside0 (L2.length = i * TB.length + j) ∧ Aside0 (GS w w' w.heap.size S gL G v12 (.slice A1 TA.length c1) (.slice A2 TB.length c2) L2 TA TB)) (fun v12 v16 w' => TB.length - (intOf v16).toNat)
                  case atStart => exact ⟨0, L, Nat.zero_le _, rfl, ⟨rfl⟩, ⟨by have := HLL.out; omega⟩, HGS⟩
                  case round =>
                    clear HGS
                    obtain ⟨j, L2, hj, rfl, HB, HL2, HGS⟩ := hrel
                    by_cases hjt : j < TB.length
                    · go_wp2_with fail
                      go_loopw [17, 18] (fun v17 v18 w' => ∃ (q : Nat) (s : Int), q ≤ 25 ∧ v17 = .int .u16 s ∧ v18 = .int .i64 q ∧ Aside0 (exSum G (rd TA (i : Int)) (rd TB (j : Int)) c n (25 - q) q s = exSum G (rd TA (i : Int)) (rd TB (j : Int)) c n 25 0 0) ∧ Aside0 (GS w w' w.heap.size S gL G _ (.slice A1 TA.length c1) (.slice A2 TB.length c2) L2 TA TB)) (fun v17 v18 w' => 25 - (intOf v18).toNat)
                      case atStart => exact ⟨0, 0, Nat.zero_le _, rfl, rfl, ⟨rfl⟩, HGS⟩
                      case round =>
                        clear HGS
                        obtain ⟨q, s, hq, rfl, rfl, HX, HGS⟩ := hrel
                        by_cases hqt : q < 25
                        · as_aux_lemma =>
                            have hx := HX.out
                            rw [show 25 - q = (24 - q) + 1 by omega] at hx
                            unfold exSum at hx
                            obtain ⟨U, hU⟩ : ∃ U, U = q % 5 := ⟨_, rfl⟩
                            obtain ⟨V, hV⟩ : ∃ V, V = q / 5 := ⟨_, rfl⟩
                            have tm : Int.tmod (q : Int) 5 = (U : Int) := by rw [Int.tmod_eq_emod_of_nonneg (by omega)]; omega
                            have td : Int.tdiv (q : Int) 5 = (V : Int) := by rw [Int.tdiv_eq_ediv_of_nonneg (by omega)]; omega
                            have wU : IntKind.u64.wrap (U : Int) = (U : Int) := by simp [IntKind.wrap, IntKind.signed, IntKind.bits]; omega
                            have wV : IntKind.u64.wrap (V : Int) = (V : Int) := by simp [IntKind.wrap, IntKind.signed, IntKind.bits]; omega
                            have hmA := (Kd.R_reads' HGS.out.hA).2.2
                            have hmD := (Kd.R_reads' HGS.out.hD).2.2
                            obtain ⟨ad1, e1, ca⟩ := Kd.at_int hmA (i : Int) (by omega) (by omega)
                            obtain ⟨ad2, e2, cd⟩ := Kd.at_int hmD (j : Int) (by omega) (by omega)
                            subst e1 e2
                            have ca2 : wr.cell? (ad1.add i) = some (.int .u32 (rd TA (i : Int))) := ca
                            have cd2 : wr.cell? (ad2.add j) = some (.int .u32 (rd TB (j : Int))) := cd
                            have hit2 : (i : Int) < (TA.length : Int) := by omega
                            have hjt2 : (j : Int) < (TB.length : Int) := by omega
                            have hcell : wr.cell? ⟨w.heap.size, V * 5 + U, none⟩ = some (.int .u16 (rd G (q : Int))) := by
                              rw [cell_of_row _ _ _ _ _ _ HGS.out.hG, show V * 5 + U = q by omega]
                              exact gc5_at G q (by rw [HG.out]; omega)
                            clear hmA hmD
                            unfold exOk bitU at hx
                            rw [← hU, ← hV] at hx
                            have hU5 : U < 5 := by omega
                            have hV5 : V < 5 := by omega
                            have hq5 : V * 5 + U = q := by omega
                            rw [hq5] at hcell
                            clear hU hV
                            by_cases k1 : U ≠ c ∨ V ≠ n
                            · by_cases hUc : U = c
                              · have hVn : V ≠ n := by omega
                                have hUc0 : ((U : Int) != (c : Int)) = false := by rw [hUc]; simp
                                have hVn0 : ((V : Int) != (n : Int)) = true := bne_iff_ne.mpr (by omega)
                                rw [decide_eq_false (p := U ≠ c) (by omega), decide_eq_true hVn] at hx
                                clear hUc
                                obtain ⟨SA, hSA⟩ : ∃ y, shr .u32 (rd TA (i : Int)) (U : Int) = y := ⟨_, rfl⟩
                                obtain ⟨SD, hSD⟩ : ∃ y, shr .u32 (rd TB (j : Int)) (V : Int) = y := ⟨_, rfl⟩
                                have hSA1 : (rd TA (i : Int)) / 2 ^ min U 32 = SA := hSA
                                have hSD1 : (rd TB (j : Int)) / 2 ^ min V 32 = SD := hSD
                                have mU : min U 32 = U := by omega
                                have mV : min V 32 = V := by omega
                                have hSA2 : (rd TA (i : Int)) / 2 ^ U = SA := by rw [← mU]; exact hSA1
                                have hSD2 : (rd TB (j : Int)) / 2 ^ V = SD := by rw [← mV]; exact hSD1
                                rw [hSA, hSD] at hx
                                clear hSA hSD
                                by_cases bA : Go.bits .and .u32 SA 1 = 1
                                · have bA0 : (Go.bits .and .u32 SA 1 == 1) = true := beq_iff_eq.mpr bA
                                  by_cases bD : Go.bits .and .u32 SD 1 = 1
                                  · have bD0 : (Go.bits .and .u32 SD 1 == 1) = true := beq_iff_eq.mpr bD
                                    rw [decide_eq_true bA, decide_eq_true bD] at hx
                                    simp only [Bool.and_self, Bool.true_or, Bool.or_true, Bool.and_true, Bool.true_and, if_true] at hx
                                    have HX2 := Aside0.mk hx
                                    clear hx HX bA bD
                                    go_wp2_with fail
                                    exact ⟨⟨q + 1, _, by omega, rfl, by go_num, ⟨by rw [show 25 - (q + 1) = 24 - q by omega]; exact HX2.out⟩, HGS⟩, by simp [intOf]; omega⟩
                                  · have bD0 : (Go.bits .and .u32 SD 1 == 1) = false := beq_eq_false_iff_ne.mpr bD
                                    rw [decide_eq_true bA, decide_eq_false bD] at hx
                                    simp only [Bool.and_false, Bool.false_eq_true, if_false] at hx
                                    have HX2 := Aside0.mk hx
                                    clear hx HX bA bD
                                    go_wp2_with fail
                                    exact ⟨⟨q + 1, _, by omega, rfl, by go_num, ⟨by rw [show 25 - (q + 1) = 24 - q by omega]; exact HX2.out⟩, HGS⟩, by simp [intOf]; omega⟩
                                · have bA0 : (Go.bits .and .u32 SA 1 == 1) = false := beq_eq_false_iff_ne.mpr bA
                                  rw [decide_eq_false bA] at hx
                                  simp only [Bool.false_and, Bool.and_false, Bool.false_eq_true, if_false] at hx
                                  have HX2 := Aside0.mk hx
                                  clear hx HX bA
                                  go_wp2_with fail
                                  exact ⟨⟨q + 1, _, by omega, rfl, by go_num, ⟨by rw [show 25 - (q + 1) = 24 - q by omega]; exact HX2.out⟩, HGS⟩, by simp [intOf]; omega⟩
                              · have hUc0 : ((U : Int) != (c : Int)) = true := bne_iff_ne.mpr (by omega)
                                rw [decide_eq_true (p := U ≠ c) hUc] at hx
                                obtain ⟨SA, hSA⟩ : ∃ y, shr .u32 (rd TA (i : Int)) (U : Int) = y := ⟨_, rfl⟩
                                obtain ⟨SD, hSD⟩ : ∃ y, shr .u32 (rd TB (j : Int)) (V : Int) = y := ⟨_, rfl⟩
                                have hSA1 : (rd TA (i : Int)) / 2 ^ min U 32 = SA := hSA
                                have hSD1 : (rd TB (j : Int)) / 2 ^ min V 32 = SD := hSD
                                have mU : min U 32 = U := by omega
                                have mV : min V 32 = V := by omega
                                have hSA2 : (rd TA (i : Int)) / 2 ^ U = SA := by rw [← mU]; exact hSA1
                                have hSD2 : (rd TB (j : Int)) / 2 ^ V = SD := by rw [← mV]; exact hSD1
                                rw [hSA, hSD] at hx
                                clear hSA hSD
                                by_cases bA : Go.bits .and .u32 SA 1 = 1
                                · have bA0 : (Go.bits .and .u32 SA 1 == 1) = true := beq_iff_eq.mpr bA
                                  by_cases bD : Go.bits .and .u32 SD 1 = 1
                                  · have bD0 : (Go.bits .and .u32 SD 1 == 1) = true := beq_iff_eq.mpr bD
                                    rw [decide_eq_true bA, decide_eq_true bD] at hx
                                    simp only [Bool.and_self, Bool.true_or, Bool.or_true, Bool.and_true, Bool.true_and, if_true] at hx
                                    have HX2 := Aside0.mk hx
                                    clear hx HX bA bD
                                    go_wp2_with fail
                                    exact ⟨⟨q + 1, _, by omega, rfl, by go_num, ⟨by rw [show 25 - (q + 1) = 24 - q by omega]; exact HX2.out⟩, HGS⟩, by simp [intOf]; omega⟩
                                  · have bD0 : (Go.bits .and .u32 SD 1 == 1) = false := beq_eq_false_iff_ne.mpr bD
                                    rw [decide_eq_true bA, decide_eq_false bD] at hx
                                    simp only [Bool.and_false, Bool.false_eq_true, if_false] at hx
                                    have HX2 := Aside0.mk hx
                                    clear hx HX bA bD
                                    go_wp2_with fail
                                    exact ⟨⟨q + 1, _, by omega, rfl, by go_num, ⟨by rw [show 25 - (q + 1) = 24 - q by omega]; exact HX2.out⟩, HGS⟩, by simp [intOf]; omega⟩
                                · have bA0 : (Go.bits .and .u32 SA 1 == 1) = false := beq_eq_false_iff_ne.mpr bA
                                  rw [decide_eq_false bA] at hx
                                  simp only [Bool.false_and, Bool.and_false, Bool.false_eq_true, if_false] at hx
                                  have HX2 := Aside0.mk hx
                                  clear hx HX bA
                                  go_wp2_with fail
                                  exact ⟨⟨q + 1, _, by omega, rfl, by go_num, ⟨by rw [show 25 - (q + 1) = 24 - q by omega]; exact HX2.out⟩, HGS⟩, by simp [intOf]; omega⟩
                            · have kU : U = c := by omega
                              have kV : V = n := by omega
                              rw [decide_eq_false (p := U ≠ c) (by omega), decide_eq_false (p := V ≠ n) (by omega)] at hx
                              simp only [Bool.or_self, Bool.false_and, Bool.false_eq_true, if_false] at hx
                              have hU0 : ((U : Int) != (c : Int)) = false := by rw [kU]; simp
                              have hV0 : ((V : Int) != (n : Int)) = false := by rw [kV]; simp
                              have HX2 := Aside0.mk hx
                              clear hx HX kU kV k1
                              go_wp2_with fail
                              exact ⟨⟨q + 1, _, by omega, rfl, by go_num, ⟨by rw [show 25 - (q + 1) = 24 - q by omega]; exact HX2.out⟩, HGS⟩, by simp [intOf]; omega⟩
                        · as_aux_lemma =>
                            have ewj : wrap64 ((j : Int) + 1) = (j : Int) + 1 := by have := HTT.out; unfold wrap64; omega
                            have ewj2 : IntKind.i64.wrap ((j : Int) + 1) = (j : Int) + 1 := by rw [i64_w]; exact ewj
                            obtain rfl : q = 25 := by omega
                            have hx : s = exSum G (rd TA (i : Int)) (rd TB (j : Int)) c n 25 0 0 := HX.out
                            have HX2 := Aside0.mk hx
                            clear hx HX
                            go_wp2_with (first | ((with_reducible refine gate_builtin (b := .append) (xs := #[.tmp 96, .tmp 98]) rfl ?_); at_builtin; refine Kd.R_append (Kd.int .u16) (w0 := w) w.heap.size rfl (.tmp 96) (.tmp 98) 50 29 (.int .u16 0) 2 rfl Tryd.underlying50 ex_info rfl (by decide) (by omega) _ L2 s [.int .u16 s] (fun k_ => k_ = gL ∨ S ≤ k_) (fun _ => False) rfl rfl ?aP (fun _ hk => hk.elim) ?aF ?aO ?aB ?aS ?aL ?_; (case aP => exact rfl); (case aB => exact HGS.out.hB); (case aF => exact fun k_ hk_ => .inr (Nat.le_trans HGS.out.hS hk_)); (case aO => exact HGS.out.hL); (case aS => exact HGS.out.hB.size); (case aL => exact ex_len HTT.out.1 HTT.out.2 hit hjt HL2.out); intro v1 w4 ho hb hg hat; have HG2 := Aside0.mk (GS.app HGS.out ho hb hg); clear ho hb hg hat HGS))
                            exact ⟨⟨j + 1, L2 ++ [s], by omega, by go_num, ⟨by rw [← HB.out, List.drop_eq_getElem_cons hjt, exB_cons, HX2.out, ← rd_get hjt]⟩, ⟨by rw [List.length_append, HL2.out]; simp; omega⟩, HG2⟩, by simp [intOf]; omega⟩
                    · as_aux_lemma =>
                        have ewi : wrap64 ((i : Int) + 1) = (i : Int) + 1 := by have := HTT.out; unfold wrap64; omega
                        have ewi2 : IntKind.i64.wrap ((i : Int) + 1) = (i : Int) + 1 := by rw [i64_w]; exact ewi
                        obtain rfl : j = TB.length := by omega
                        have hb := HB.out
                        rw [List.drop_length] at hb
                        have HB2 := Aside0.mk (show L2 = exB G (rd TA (i : Int)) c n TB L from hb)
                        clear hb HB
                        go_wp2_with fail
                        exact ⟨⟨i + 1, L2, by omega, by go_num, ⟨by rw [← HA.out, List.drop_eq_getElem_cons hit, exA_cons, HB2.out, ← rd_get hit]⟩, ⟨by rw [HL2.out, Nat.succ_mul]⟩, HGS⟩, by simp [intOf]; omega⟩
                · as_aux_lemma =>
                    obtain rfl : i = TA.length := by omega
                    have ha := HA.out
                    rw [List.drop_length] at ha
                    have HA2 := Aside0.mk (show L = exA G c n TB TA [] from ha)
                    clear ha HA
                    obtain ⟨A3, c3, e3⟩ := Kd.R_slice HGS.out.hL
                    subst e3
                    have hm := Kd.R_reads' HGS.out.hL
                    have LE := Aside0.mk (fun W (hb : Below wr.heap.size wr W) => spec_l03Least.calls k A3 c3 L v W (Kd.C_below hm.2.2 hb) hm.2.1 (by rw [HA2.out]; exact T3.out))
                    have HBS := Aside0.mk (show BS w wr G from ⟨HGS.out.hB, HGS.out.hG⟩)
                    clear hm HGS HA2
                    go_wp2_with fail
                    have hlc : n * 5 + c < 25 := by omega
                    go_region_with (go_at_call 44; refine (LE.out _ (by repeat (first | exact Below.refl _ _ | apply pw_below_drewN | apply below_drew1))).mono ?_; rintro e w5 ⟨rfl, hb5⟩; have hb6 : Below wr.heap.size wr w5 := below_step (by repeat (first | exact Below.refl _ _ | apply pw_below_drewN | apply below_drew1)) hb5; have HB5 := Aside0.mk (BS.cells HBS.out hb6 HG.out hlc); have HB6 := Aside0.mk hb6; clear hb6; have hc5 := HB5.out.1; have hf5 := HB5.out.2; clear hb5)
                    all_goals (go_wp2_with fail; exact ⟨⟨c + 1, G.set (n * 5 + c) v, by omega, by go_num, ⟨by rw [show X + 1 - (c + 1) = X - c by omega]; exact T4.out⟩, ⟨by rw [List.length_set]; exact HG.out⟩, ⟨BS.put HBS.out HB6.out (n * 5 + c) v⟩⟩, by simp [intOf]; omega⟩)
            · rw [if_neg hTT] at hr
              cases hr
          · as_aux_lemma =>
              have ec : X + 1 - c = 0 := by omega
              have hr := HC.out
              rw [ec] at hr
              have e2 : G = GR := Option.some.inj hr
              subst e2
              clear hr HC
              go_wp2_with fail
              exact ⟨⟨n + 1, G, by omega, by go_num, ⟨by rw [show Y + 1 - (n + 1) = Y - n by omega]; exact HR2.out⟩, HG, HS⟩, by simp [intOf]; omega⟩
      · as_aux_lemma =>
          have en : Y + 1 - n = 0 := by omega
          have hr := HR.out
          rw [en] at hr
          have e2 : G = GF := Option.some.inj hr
          subst e2
          have enY : n = Y + 1 := by omega
          subst enY
          have hcell : wr.cell? ⟨w.heap.size, Y * 5 + X, none⟩ = some (.int .u16 (rd G ((Y * 5 + X : Nat) : Int))) :=
            (cell_of_row _ _ _ _ _ _ HS.out.hG).trans (gc5_at G (Y * 5 + X) (by rw [HG.out]; omega))
          rw [G3.out] at hcell
          have hlt3 : ¬ (((Y + 1 : Nat) : Int) ≤ (Y : Int)) := by omega
          clear hr HR
          go_wp2_with fail
          go_ret
          exact ⟨rfl, HS.out.hB⟩
  · rw [if_neg hc] at h
    cases h

/-! ### spec_RectangleByExclusion: function 12 -/
def spec_RectangleByExclusion.f (k : Nat) (a0 : Int) (a1 : Int) (a2 : Int) (a3 : Int) : Option (Int × Int) := (spec_l04Both.f a0 a1 a2 a3 4).bind fun t134 => (if t134 = true then ((spec_l04Excluded.f k a0 a1 a2 a3).bind fun t135 => (some (t135, 0))) else (some (0, 2)))
theorem spec_RectangleByExclusion.mono : ∀ a0 a1 a2 a3 k, LeO (spec_RectangleByExclusion.f k a0 a1 a2 a3) (spec_RectangleByExclusion.f (k + 1) a0 a1 a2 a3) := by
  intro a0 a1 a2 a3 k
  unfold spec_RectangleByExclusion.f
  repeat' first
      | (with_reducible exact spec_l04Excluded.mono _ _ _ _ _)
      | (with_reducible exact LeO.refl _)
      | (with_reducible exact LeO.none _)
      | (with_reducible refine LeO.ite ?_ ?_)
      | (with_reducible refine LeO.bind ?_ (fun _ => ?_))
      | exact spec_l04Excluded.mono _ _ _ _ _
      | exact LeO.none _
      | refine LeO.ite ?_ ?_
      | refine LeO.bind ?_ (fun _ => ?_)
set_option maxHeartbeats 8000000 in
set_option maxRecDepth 100000 in
theorem spec_RectangleByExclusion.calls (k : Nat) (a0 : Int) (a1 : Int) (a2 : Int) (a3 : Int) (r1 : Int) (r2 : Int) (w : World) (h : spec_RectangleByExclusion.f k a0 a1 a2 a3 = some (r1, r2)) :
    Calls Tryd.prog 12 #[.int .i64 a0, .int .i64 a1, .int .i64 a2, .int .i64 a3] w fun e w' => e = .returned (.tuple #[.int .u16 r1, .int .i64 r2]) ∧ Below w.heap.size w w' := by
  have HB := Aside0.mk (Below.refl w.heap.size w)
  have H : ((spec_l04Both.f a0 a1 a2 a3 4).bind fun t134 => (if t134 = true then ((spec_l04Excluded.f k a0 a1 a2 a3).bind fun t135 => (some (t135, 0))) else (some (0, 2)))) = some (r1, r2) := h
  clear h
  replace H := Option.bind_eq_some_iff.mp H
  obtain ⟨t134, A50, H⟩ := H
  replace H : (if t134 = true then ((spec_l04Excluded.f k a0 a1 a2 a3).bind fun t135 => (some (t135, 0))) else (some (0, 2))) = some (r1, r2) := H
  have A5 := Aside0.mk A50
  clear A50
  by_cases c6 : t134 = true
  · subst c6
    have H1 : ((spec_l04Excluded.f k a0 a1 a2 a3).bind fun t135 => (some (t135, 0))) = some (r1, r2) := by rw [if_pos rfl] at H; exact H
    clear H
    have H := H1
    clear H1
    replace H := Option.bind_eq_some_iff.mp H
    obtain ⟨t135, A70, H⟩ := H
    replace H : (some (t135, 0)) = some (r1, r2) := H
    have A7 := Aside0.mk A70
    clear A70
    simp only [Option.some.injEq, Prod.mk.injEq] at H
    obtain ⟨rfl, rfl⟩ := H
    go_enter Tryd.func12, Tryd.ntmps12
    go_wp2_with (first | ((with_reducible refine gate_callee (f := 26) rfl ?_); refine goesL_ (some 14) rfl rfl Tryd.func26 (by kernel_rfl) rfl #[.int .i64 a0, .int .i64 a1, .int .i64 a2, .int .i64 a3, .int .i64 4] rfl (by (try simp only [List.map_toArray, List.map_cons, List.map_nil]); first | done | rfl | (simp only [List.length_drop, List.length_take]; rfl)) ?_; (with_reducible refine (spec_l04Both.calls a0 a1 a2 a3 4 true _ A5.out).mono ?_); rintro e w' ⟨rfl, ⟨nd, rfl⟩⟩; refine ⟨_, rfl, ?_⟩) | ((with_reducible refine gate_callee (f := 27) rfl ?_); refine goesL_ (some 20) rfl rfl Tryd.func27 (by kernel_rfl) rfl #[.int .i64 a0, .int .i64 a1, .int .i64 a2, .int .i64 a3] rfl (by (try simp only [List.map_toArray, List.map_cons, List.map_nil]); first | done | rfl | (simp only [List.length_drop, List.length_take]; rfl)) ?_; (with_reducible refine (spec_l04Excluded.calls k a0 a1 a2 a3 t135 _ A7.out).mono ?_); rintro e w8 ⟨rfl, hb⟩; refine ⟨_, rfl, ?_⟩; have n0_ := Aside0.mk (below_step (by repeat (first | (with_reducible first | exact HB.out | apply below_alloc | apply pw_below_drewN | apply below_drew1) | exact HB.out)) hb); clear HB; have HB := n0_; clear n0_; (try clear hb); (try clear hb2); (try clear hk); (try clear hi)))
    go_ret2
    exact ⟨by first | rfl | (simp [errW_none, errW_some] <;> rfl) | (simp [*, errW_none, errW_some] <;> rfl), by repeat (first | (with_reducible first | exact HB.out | apply below_alloc | apply pw_below_drewN | apply below_drew1) | exact HB.out)⟩
  · replace c6 := Bool.eq_false_iff.mpr c6
    subst c6
    have H1 : (some (0, 2)) = some (r1, r2) := by rw [if_neg (show ¬ (false = true) by decide)] at H; exact H
    clear H
    have H := H1
    clear H1
    simp only [Option.some.injEq, Prod.mk.injEq] at H
    obtain ⟨rfl, rfl⟩ := H
    go_enter Tryd.func12, Tryd.ntmps12
    go_wp2_with (first | ((with_reducible refine gate_callee (f := 26) rfl ?_); refine goesL_ (some 14) rfl rfl Tryd.func26 (by kernel_rfl) rfl #[.int .i64 a0, .int .i64 a1, .int .i64 a2, .int .i64 a3, .int .i64 4] rfl (by (try simp only [List.map_toArray, List.map_cons, List.map_nil]); first | done | rfl | (simp only [List.length_drop, List.length_take]; rfl)) ?_; (with_reducible refine (spec_l04Both.calls a0 a1 a2 a3 4 false _ A5.out).mono ?_); rintro e w' ⟨rfl, ⟨nd, rfl⟩⟩; refine ⟨_, rfl, ?_⟩))
    go_ret2
    exact ⟨by first | rfl | (simp [errW_none, errW_some] <;> rfl) | (simp [*, errW_none, errW_some] <;> rfl), by repeat (first | (with_reducible first | exact HB.out | apply below_alloc | apply pw_below_drewN | apply below_drew1) | exact HB.out)⟩

/-! ### impl_within: function 33 -/
def impl_within.f (a0 : Int) (a1 : Int) (a2 : Int) : Option (Bool) := if a1 ≤ a0 then (some (decide (a0 ≤ a2))) else (some false)
set_option maxHeartbeats 8000000 in
set_option maxRecDepth 100000 in
theorem impl_within.calls (a0 : Int) (a1 : Int) (a2 : Int) (r : Bool) (w : World) (h : impl_within.f a0 a1 a2 = some r) :
    Calls Tryd.prog 33 #[.int .i64 a0, .int .i64 a1, .int .i64 a2] w fun e w' => e = .returned (.bool r) ∧ Drawn0 w w' := by
  have H : (if a1 ≤ a0 then (some (decide (a0 ≤ a2))) else (some false)) = some r := h
  clear h
  by_cases c4 : a1 ≤ a0
  · rw [if_pos c4] at H
    have c4b0 : decide (a1 ≤ a0) = true := decide_eq_true c4
    clear c4
    obtain rfl := Option.some.inj H
    go_enter Tryd.func33, Tryd.ntmps33
    go_wp2
    go_ret
    exact ⟨by first | rfl | (simp; done) | (simp [*]; done), by repeat (first | exact Drawn0.refl _ | apply Drawn0.step)⟩
  · rw [if_neg c4] at H
    have c4b0 : decide (a1 ≤ a0) = false := decide_eq_false c4
    clear c4
    obtain rfl := Option.some.inj H
    go_enter Tryd.func33, Tryd.ntmps33
    go_wp2
    go_ret
    exact ⟨by first | rfl | (simp; done) | (simp [*]; done), by repeat (first | exact Drawn0.refl _ | apply Drawn0.step)⟩

/-! ### impl_isRule: function 45 -/
def impl_isRule.f (a0 : Int) : Option (Bool) := (impl_within.f a0 0 5).bind fun t136 => (some t136)
set_option maxHeartbeats 8000000 in
set_option maxRecDepth 100000 in
theorem impl_isRule.calls (a0 : Int) (r : Bool) (w : World) (h : impl_isRule.f a0 = some r) :
    Calls Tryd.prog 45 #[.int .i64 a0] w fun e w' => e = .returned (.bool r) ∧ Drawn0 w w' := by
  have H : ((impl_within.f a0 0 5).bind fun t136 => (some t136)) = some r := h
  clear h
  replace H := Option.bind_eq_some_iff.mp H
  obtain ⟨t136, A20, H⟩ := H
  replace H : (some t136) = some r := H
  have A2 := Aside0.mk A20
  clear A20
  obtain rfl := Option.some.inj H
  go_enter Tryd.func45, Tryd.ntmps45
  go_wp2_with (first | ((with_reducible refine gate_callee (f := 33) rfl ?_); refine goesL_ (some 4) rfl rfl Tryd.func33 (by kernel_rfl) rfl #[.int .i64 a0, .int .i64 0, .int .i64 5] rfl (by (try simp only [List.map_toArray, List.map_cons, List.map_nil]); first | done | rfl | (simp only [List.length_drop, List.length_take]; rfl)) ?_; (with_reducible refine (impl_within.calls a0 0 5 t136 _ A2.out).mono ?_); rintro e w' ⟨rfl, ⟨nd, rfl⟩⟩; refine ⟨_, rfl, ?_⟩))
  go_ret
  exact ⟨by first | rfl | (simp; done) | (simp [*]; done), by repeat (first | exact Drawn0.refl _ | apply Drawn0.step)⟩

end Go.Proofs.YtdgglnjegkmamaaDoor.QFnExactRectangleByExclusion
