/- Written by the session's own program (wip/myprint.py), for the law FnExactRectangleByExclusion: each function as a plain Lean function, and its contract. -/
import Derived.Test.YtdgglnjegkmamaaDoorQFnExactRectangleByExclusionx0
import Derived.Test.YtdgglnjegkmamaaDoorQFnExactRectangleByExclusionx3
import Derived.Test.YtdgglnjegkmamaaDoorQFnExactRectangleByExclusionx9
namespace Go.Proofs.YtdgglnjegkmamaaDoor.QFnExactRectangleByExclusion
open Go.RowKit Go.Proofs.YtdgglnjegkmamaaDoorW.PrintWords Go.Proofs.YtdgglnjegkmamaaDoorW.PrintLast Go.Proofs.YtdgglnjegkmamaaDoorW.PrintMore
attribute [local go_sem] max2_int min2_int max_two min_two max_three min_three max_four min_four   -- for this text's walks alone
set_option linter.unusedVariables false
set_option linter.unusedSimpArgs false

/-! ### slices_Compact_uint32_uint32: function 49 -/
def slices_Compact_uint32_uint32.l0 : Nat → List Int → Int → Option (List Int)
  | 0, _, _ => none
  | k + 1, x0, x3 => if x3 < (x0.length : Int) then (if 0 ≤ x3 then (if 0 ≤ (wrap64 (x3 - 1)) then (if (wrap64 (x3 - 1)) < (x0.length : Int) then (if (rd x0 x3) = (rd x0 (wrap64 (x3 - 1))) then (none) else (slices_Compact_uint32_uint32.l0 k x0 (wrap64 (x3 + 1)))) else (none)) else (none)) else (none)) else (some x0)
def slices_Compact_uint32_uint32.f (k : Nat) (l0 : List Int) : Option (List Int) := if (l0.length : Int) < 2 then (some l0) else (slices_Compact_uint32_uint32.l0 k l0 1)
theorem slices_Compact_uint32_uint32.mono_l : ∀ k, (∀ y0 y1, LeO (slices_Compact_uint32_uint32.l0 k y0 y1) (slices_Compact_uint32_uint32.l0 (k + 1) y0 y1))
  | 0 => fun _ _ r h => by simp [slices_Compact_uint32_uint32.l0] at h
  | k + 1 => by
    have ih0 := slices_Compact_uint32_uint32.mono_l k
    · intro y0 y1
      unfold slices_Compact_uint32_uint32.l0
      repeat' first
      | (with_reducible exact ih0 _ _)
      | (with_reducible exact LeO.refl _)
      | (with_reducible exact LeO.none _)
      | (with_reducible refine LeO.ite ?_ ?_)
      | (with_reducible refine LeO.bind ?_ (fun _ => ?_))
      | exact ih0 _ _
      | exact LeO.none _
      | refine LeO.ite ?_ ?_
      | refine LeO.bind ?_ (fun _ => ?_)
theorem slices_Compact_uint32_uint32.mono : ∀ a0 k, LeO (slices_Compact_uint32_uint32.f k a0) (slices_Compact_uint32_uint32.f (k + 1) a0) := by
  intro a0 k
  have ih0 := slices_Compact_uint32_uint32.mono_l k
  unfold slices_Compact_uint32_uint32.f
  repeat' first
      | (with_reducible exact ih0 _ _)
      | (with_reducible exact LeO.refl _)
      | (with_reducible exact LeO.none _)
      | (with_reducible refine LeO.ite ?_ ?_)
      | (with_reducible refine LeO.bind ?_ (fun _ => ?_))
      | exact ih0 _ _
      | exact LeO.none _
      | refine LeO.ite ?_ ?_
      | refine LeO.bind ?_ (fun _ => ?_)
set_option maxHeartbeats 8000000 in
set_option maxRecDepth 100000 in
theorem slices_Compact_uint32_uint32.calls (k : Nat) (P0_ : Nat → Prop) (u9000_ : Value) (l0 : List Int) (r : List Int) (w0 w : World) (hB : Below w0.heap.size w0 w) (ho0 : Kd.R (Kd.int .u32) 67 w w0.heap.size P0_ u9000_ l0) (h : slices_Compact_uint32_uint32.f k l0 = some r) :
    Calls Tryd.prog 49 #[u9000_] w fun e w' => ∃ v0_ : Value, e = .returned (v0_) ∧ Kd.R (Kd.int .u32) 67 w' w0.heap.size (fun k_ => (P0_ k_ ∨ w.heap.size ≤ k_)) v0_ r ∧ Below w0.heap.size w0 w' ∧ Kept w w' (fun k_ => P0_ k_) := by
  have HO0 := Aside0.mk (show Kd.R (Kd.int .u32) 67 w w0.heap.size (fun k_ => (P0_ k_ ∨ w.heap.size ≤ k_)) u9000_ l0 from Kd.R_mono ho0 (fun k_ hk => (.inl hk)))
  have HK := Aside0.mk (Kept.refl w (fun k_ => P0_ k_))
  have HW0 := Aside0.mk hB.size
  have HB := Aside0.mk hB
  clear hB
  have H : (if (l0.length : Int) < 2 then (some l0) else (slices_Compact_uint32_uint32.l0 k l0 1)) = some r := h
  clear h
  by_cases c2 : (l0.length : Int) < 2
  · rw [if_pos c2] at H
    have c2b0 : decide ((l0.length : Int) < 2) = true := decide_eq_true c2
    have c2b1 : decide (l0.length < 2) = true := decide_eq_true (by omega)
    clear c2
    obtain rfl := Option.some.inj H
    obtain ⟨Ao3, co3, eo3⟩ := Kd.R_slice HO0.out
    subst eo3
    go_enter Tryd.func49, Tryd.ntmps49
    go_wp2
    repeat (go_quiet (fail); try go_wp2)
    go_ret
    exact ⟨_, by first | rfl | (simp [errW_none, errW_some] <;> rfl) | (simp [*, errW_none, errW_some] <;> rfl), by (with_reducible repeat (first | apply Kd.R_alloc | apply Kd.R_drewN | apply Kd.R_drew)); exact HO0.out, by repeat (first | (with_reducible first | exact HB.out | apply below_alloc | apply pw_below_drewN | apply below_drew1) | exact HB.out), by repeat (first | (with_reducible first | exact HK.out | apply Kept.alloc | apply Kept.drewN | apply Kept.drew) | exact HK.out)⟩
  · rw [if_neg c2] at H
    have c2b0 : decide ((l0.length : Int) < 2) = false := decide_eq_false c2
    have c2b1 : decide (l0.length < 2) = false := decide_eq_false (by omega)
    clear c2
    have H' := Aside0.mk H
    clear H
    obtain ⟨Ao4, co4, eo4⟩ := Kd.R_slice HO0.out
    subst eo4
    go_enter Tryd.func49, Tryd.ntmps49
    go_wp2
    repeat (go_quiet (fail); try go_wp2)
    go_loopg [3] k (fun kq v3 w' => ∃ (x0_1 : List Int) (x3_1 : Int), v3 = .int .i64 x3_1 ∧ Aside0 (slices_Compact_uint32_uint32.l0 kq x0_1 x3_1 = some r) ∧ Aside0 (kq ≤ k) ∧ Aside0 (Kd.R (Kd.int .u32) 67 w' w0.heap.size (fun k_ => (P0_ k_ ∨ w.heap.size ≤ k_)) (.slice Ao4 l0.length co4) x0_1) ∧ Aside0 (Kept w w' (fun k_ => P0_ k_)) ∧ Aside0 (Below w0.heap.size w0 w'))
    case atStart => exact ⟨(l0), (1), (by first | rfl | (simp; done) | (simp [*]; done)), H', ⟨Nat.le_refl _⟩, ⟨by (with_reducible repeat (first | apply Kd.R_alloc | apply Kd.R_drewN | apply Kd.R_drew)); exact HO0.out⟩, ⟨by repeat (first | (with_reducible first | exact HK.out | apply Kept.alloc | apply Kept.drewN | apply Kept.drew) | exact HK.out)⟩, ⟨by repeat (first | (with_reducible first | exact HB.out | apply below_alloc | apply pw_below_drewN | apply below_drew1) | exact HB.out)⟩⟩
    case round =>
      clear H'
      try clear c2
      try clear c2b0
      try clear c2b1
      try clear p2
      try clear c4
      obtain ⟨x0_1, x3_1, rfl, HA, HK1, HO_0, HK, HB⟩ := hrel
      have hl0_1 := (Kd.R_reads' HO_0.out).1
      rw [hl0_1] at HO_0
      (try simp only [hl0_1])
      cases gk with
      | zero => exact absurd HA.out (by simp [slices_Compact_uint32_uint32.l0])
      | succ k1 =>
        have H := HA.out
        clear HA
        simp only [slices_Compact_uint32_uint32.l0] at H
        by_cases c5 : x3_1 < (x0_1.length : Int)
        · rw [if_pos c5] at H
          have c5b0 : decide (x3_1 < (x0_1.length : Int)) = true := decide_eq_true c5
          clear c5
          by_cases c6 : 0 ≤ x3_1
          · rw [if_pos c6] at H
            have c6b0 : decide (0 ≤ x3_1) = true := decide_eq_true c6
            clear c6
            obtain ⟨ji7, hji7⟩ : ∃ j_ : Int, (wrap64 (x3_1 - 1)) = j_ := ⟨_, rfl⟩
            replace H : (if 0 ≤ (ji7) then (if (ji7) < (x0_1.length : Int) then (if (rd x0_1 x3_1) = (rd x0_1 (ji7)) then (none) else (slices_Compact_uint32_uint32.l0 k1 x0_1 (wrap64 (x3_1 + 1)))) else (none)) else (none)) = some r := by first | (rw [hji7] at H; exact H) | (simp only [hji7] at H ⊢; exact H)
            have hji7w : (IntKind.i64.wrap (x3_1 - 1)) = ji7 := (i64_w _).trans hji7
            by_cases c8 : 0 ≤ (ji7)
            · rw [if_pos c8] at H
              have c8b0 : decide (0 ≤ (ji7)) = true := decide_eq_true c8
              clear c8
              by_cases c9 : (ji7) < (x0_1.length : Int)
              · rw [if_pos c9] at H
                have c9b0 : decide ((ji7) < (x0_1.length : Int)) = true := decide_eq_true c9
                clear c9
                by_cases c10 : (rd x0_1 x3_1) = (rd x0_1 (ji7))
                · rw [if_pos c10] at H
                  exact absurd H (by simp)
                · rw [if_neg c10] at H
                  have c10b0 : ((rd x0_1 x3_1) == (rd x0_1 (ji7))) = false := beq_eq_false_iff_ne.mpr c10
                  have c10b1 : ((rd x0_1 x3_1) != (rd x0_1 (ji7))) = true := bne_iff_ne.mpr c10
                  have H' := Aside0.mk H
                  clear H
                  have p236 : 0 ≤ (x3_1 : Int) := of_decide_eq_true (by first | (with_reducible assumption) | assumption)
                  have q236 : x3_1 < (x0_1.length : Int) := of_decide_eq_true (by first | (with_reducible assumption) | assumption)
                  obtain ⟨ad236, e236, hx236_0⟩ := Kd.at_int (Kd.R_reads' HO_0.out).2.2 x3_1 p236 q236
                  cases e236
                  replace p236 := eq_true p236
                  replace q236 := eq_true q236
                  have p237 : 0 ≤ ((ji7) : Int) := of_decide_eq_true (by first | (with_reducible assumption) | assumption)
                  have q237 : (ji7) < (x0_1.length : Int) := of_decide_eq_true (by first | (with_reducible assumption) | assumption)
                  obtain ⟨ad237, e237, hx237_0⟩ := Kd.at_int (Kd.R_reads' HO_0.out).2.2 (ji7) p237 q237
                  obtain rfl : ad236 = ad237 := (by injection e237)
                  replace p237 := eq_true p237
                  replace q237 := eq_true q237
                  go_wp2
                  repeat (go_quiet (fail); try go_wp2)
                  (try simp only [← hl0_1])
                  go_roundg k1
                  case measure => have := HK1.out; omega
                  case rel => exact ⟨(x0_1), (wrap64 (x3_1 + 1)), (by first | rfl | (simp; done) | (simp [*]; done)), H', ⟨by have := HK1.out; omega⟩, ⟨by (try simp only [hl0_1]); (with_reducible repeat (first | apply Kd.R_alloc | apply Kd.R_drewN | apply Kd.R_drew)); exact HO_0.out⟩, ⟨by repeat (first | (with_reducible first | exact HK.out | apply Kept.alloc | apply Kept.drewN | apply Kept.drew) | exact HK.out)⟩, ⟨by repeat (first | (with_reducible first | exact HB.out | apply below_alloc | apply pw_below_drewN | apply below_drew1) | exact HB.out)⟩⟩
              · rw [if_neg c9] at H
                exact absurd H (by simp)
            · rw [if_neg c8] at H
              exact absurd H (by simp)
          · rw [if_neg c6] at H
            exact absurd H (by simp)
        · rw [if_neg c5] at H
          have c5b0 : decide (x3_1 < (x0_1.length : Int)) = false := decide_eq_false c5
          clear c5
          obtain rfl := Option.some.inj H
          go_wp2
          repeat (go_quiet (fail); try go_wp2)
          go_ret
          exact ⟨_, by first | rfl | (simp [errW_none, errW_some] <;> rfl) | (simp [*, errW_none, errW_some] <;> rfl), by (with_reducible repeat (first | apply Kd.R_alloc | apply Kd.R_drewN | apply Kd.R_drew)); exact HO_0.out, by repeat (first | (with_reducible first | exact HB.out | apply below_alloc | apply pw_below_drewN | apply below_drew1) | exact HB.out), by repeat (first | (with_reducible first | exact HK.out | apply Kept.alloc | apply Kept.drewN | apply Kept.drew) | exact HK.out)⟩

/-! ### impl_turnsAt: function 29 -/
/-- What the closure does: a mask that is a turn comes to the list. -/
def impl_turnsAt.add (k : Nat) (rule : Int) (l : List Int) (m : Int) : Option (List Int) := (impl_mayTurn.f k rule m).bind fun t => some (if t = true then l ++ [m] else l)
def impl_turnsAt.in (k : Nat) (rule : Int) (one : Int) : Nat → Nat → List Int → Option (List Int)
  | 0, _, l => some l
  | d + 1, b, l => (impl_turnsAt.add k rule l (Go.bits .or .u32 one (2 ^ b % 4294967296))).bind fun l' => impl_turnsAt.in k rule one d (b + 1) l'
def impl_turnsAt.out (k : Nat) (rule : Int) (top : Int) : Nat → Nat → List Int → Option (List Int)
  | 0, _, l => some l
  | d + 1, a, l =>
    if rule = 4 then (impl_turnsAt.add k rule l ((top * 2 - 2 ^ a) % 4294967296)).bind fun l' => impl_turnsAt.out k rule top d (a + 1) l'
    else (impl_turnsAt.add k rule l (Go.bits .or .u32 top (2 ^ a % 4294967296))).bind fun l' => (impl_turnsAt.in k rule (Go.bits .or .u32 top (2 ^ a % 4294967296)) a 0 l').bind fun l2 => impl_turnsAt.out k rule top d (a + 1) l2
/-- All turns with a greatest coin. -/
def impl_turnsAt.f (k : Nat) (a0 : Int) (a1 : Int) : Option (List Int) :=
  if 0 ≤ a1 then (if a1 ≤ 23 then ((impl_turnsAt.add k a0 [] (2 ^ a1.toNat % 4294967296)).bind fun l => (impl_turnsAt.out k a0 (2 ^ a1.toNat % 4294967296) a1.toNat 0 l).bind fun l2 => (slices_Sort_uint32_uint32.f k l2).bind fun l3 => (slices_Compact_uint32_uint32.f k l3).bind fun l4 => some l4) else none) else none
theorem impl_turnsAt.add_mono (k : Nat) (rule : Int) (l : List Int) (m : Int) : LeO (impl_turnsAt.add k rule l m) (impl_turnsAt.add (k + 1) rule l m) := LeO.bind (impl_mayTurn.mono _ _ _) (fun _ => LeO.refl _)
theorem impl_turnsAt.in_mono (k : Nat) (rule one : Int) : ∀ d b l, LeO (impl_turnsAt.in k rule one d b l) (impl_turnsAt.in (k + 1) rule one d b l) := by
  intro d
  induction d with
  | zero => intro b l; exact LeO.refl _
  | succ d ih => intro b l; exact LeO.bind (impl_turnsAt.add_mono _ _ _ _) (fun _ => ih _ _)
theorem impl_turnsAt.out_mono (k : Nat) (rule top : Int) : ∀ d a l, LeO (impl_turnsAt.out k rule top d a l) (impl_turnsAt.out (k + 1) rule top d a l) := by
  intro d
  induction d with
  | zero => intro a l; exact LeO.refl _
  | succ d ih =>
    intro a l
    unfold impl_turnsAt.out
    by_cases c : rule = 4
    · rw [if_pos c, if_pos c]
      exact LeO.bind (impl_turnsAt.add_mono _ _ _ _) (fun _ => ih _ _)
    · rw [if_neg c, if_neg c]
      exact LeO.bind (impl_turnsAt.add_mono _ _ _ _) (fun _ => LeO.bind (impl_turnsAt.in_mono _ _ _ _ _ _) (fun _ => ih _ _))
theorem impl_turnsAt.mono : ∀ a0 a1 k, LeO (impl_turnsAt.f k a0 a1) (impl_turnsAt.f (k + 1) a0 a1) := by
  intro a0 a1 k
  unfold impl_turnsAt.f
  by_cases c0 : 0 ≤ a1
  · rw [if_pos c0, if_pos c0]
    by_cases c1 : a1 ≤ 23
    · rw [if_pos c1, if_pos c1]
      exact LeO.bind (impl_turnsAt.add_mono _ _ _ _) (fun _ => LeO.bind (impl_turnsAt.out_mono _ _ _ _ _ _) (fun _ => LeO.bind (slices_Sort_uint32_uint32.mono _ _) (fun _ => LeO.bind (slices_Compact_uint32_uint32.mono _ _) (fun _ => LeO.refl _))))
    · rw [if_neg c1, if_neg c1]
      exact LeO.refl _
  · rw [if_neg c0, if_neg c0]
    exact LeO.refl _
/-- Within the function: the box of the rule, the box of the list. -/
structure impl_turnsAt.TS (w0 w' : World) (b bo : Nat) (rule : Int) (l : List Int) : Prop where
  hB : Below w0.heap.size w0 w'
  lb : w0.heap.size ≤ b
  lo : w0.heap.size ≤ bo
  ne : b ≠ bo
  h1 : w'.heap[b]? = some (.cells #[.int .i64 rule] 2)
  h2 : ∃ v, w'.heap[bo]? = some (.cells #[v] 65) ∧ Kd.R (Kd.int .u32) 67 w' w0.heap.size (fun k => k ≠ b ∧ k ≠ bo) v l
theorem impl_turnsAt.TS.drewN {w0 w' : World} {b bo : Nat} {rule : Int} {l : List Int} (h : impl_turnsAt.TS w0 w' b bo rule l) (n : Nat) : impl_turnsAt.TS w0 (w'.drewN n) b bo rule l := by
  obtain ⟨v, h2, h3⟩ := h.h2
  exact ⟨pw_below_drewN h.hB n, h.lb, h.lo, h.ne, h.h1, v, h2, Kd.R_drewN h3 n⟩
theorem impl_turnsAt.TS.lt {w0 w' : World} {b bo : Nat} {rule : Int} {l : List Int} (h : impl_turnsAt.TS w0 w' b bo rule l) : b < w'.heap.size ∧ bo < w'.heap.size := by
  obtain ⟨v, h2, _⟩ := h.h2
  exact ⟨lt_of_block h.h1, lt_of_block h2⟩
/-- Behind an append and the store of what it gave. -/
theorem impl_turnsAt.TS.put {w0 W w1 : World} {b bo : Nat} {rule : Int} {l l' : List Int} {v v1 : Value} (h : impl_turnsAt.TS w0 W b bo rule l) (hv : W.heap[bo]? = some (.cells #[v] 65)) (hR : Kd.R (Kd.int .u32) 67 W w0.heap.size (fun k => k ≠ b ∧ k ≠ bo) v l)
    (ho : Kd.R (Kd.int .u32) 67 w1 w0.heap.size (fun k => k ≠ b ∧ k ≠ bo) v1 l') (hb : Below w0.heap.size w0 w1) (hg : W.grownBy w1 v.ownBlock) : w1.heap[bo]? = some (.cells #[v] 65) ∧ impl_turnsAt.TS w0 (w1.setCell ⟨bo, 0, none⟩ v1) b bo rule l' := by
  have e1 : w1.heap[b]? = W.heap[b]? := hg.block b h.lt.1 (fun e => (hR.1 b e.symm).1 rfl)
  have e2 : w1.heap[bo]? = W.heap[bo]? := hg.block bo h.lt.2 (fun e => (hR.1 bo e.symm).2 rfl)
  rw [hv] at e2
  refine ⟨e2, hb.setCell h.lo _, h.lb, h.lo, h.ne, ?_, v1, one_setCell e2, Kd.R_far ho (p := ⟨bo, 0, none⟩) (fun k hk => hk.2) v1⟩
  rw [Below.heap_setCell _ _ _ _ h.ne, e1]
  exact h.h1
set_option maxHeartbeats 1600000 in
set_option maxRecDepth 100000 in
theorem impl_turnsAt.clo (k : Nat) (w0 w : World) (b bo : Nat) (rule : Int) (l r : List Int) (m : Int) (hT : impl_turnsAt.TS w0 w b bo rule l) (hL : Laid32 w0) (hl : l.length ≤ 1000) (h : impl_turnsAt.add k rule l m = some r) :
    Calls Tryd.prog 46 #[.int .u32 m, .pointer (some ⟨b, 0, none⟩), .pointer (some ⟨bo, 0, none⟩)] w fun e w' => e = .returned (.tuple #[]) ∧ Aside0 (impl_turnsAt.TS w0 w' b bo rule r) := by
  obtain ⟨v, hv, hR⟩ := hT.h2
  unfold impl_turnsAt.add at h
  obtain ⟨t, h1, h2⟩ := Option.bind_eq_some_iff.mp h
  have h3 := Option.some.inj h2
  have cb := cell_of_one hT.h1
  have co := cell_of_one hv
  have C := Aside0.mk (fun W hW => impl_mayTurn.calls k rule m t W (hL.below hW) h1)
  have HT := Aside0.mk hT
  have HV := Aside0.mk hv
  have HR := Aside0.mk hR
  clear h1 h2 h hT hv hR hL
  by_cases c : t = true
  · subst c
    rw [if_pos rfl] at h3
    go_enter Tryd.func46, Tryd.ntmps46
    go_wp2_with fail
    go_at_call 47
    refine (C.out _ (by first | exact HT.out.hB | exact pw_below_drewN HT.out.hB _)).mono ?_
    rintro e w' ⟨rfl, ⟨nd, rfl⟩⟩
    go_wp2_with (first | ((with_reducible refine gate_builtin (b := .append) (xs := #[.tmp 7, .tmp 9]) rfl ?_); at_builtin; refine Kd.R_append (Kd.int .u32) (w0 := w0) w0.heap.size rfl (.tmp 7) (.tmp 9) 65 67 (.int .u32 0) 4 rfl Tryd.underlying65 info67 rfl (by decide) (by omega) v l m [.int .u32 m] (fun k => k ≠ b ∧ k ≠ bo) (fun _ => False) rfl rfl ?aP (fun _ hk => hk.elim) ?aF ?aO ?aB ?aS ?aL ?_; (case aP => exact rfl); (case aB => (first | exact HT.out.hB | exact pw_below_drewN HT.out.hB _)); (case aF => exact fun k_ hk_ => ⟨Nat.ne_of_gt (Nat.lt_of_lt_of_le HT.out.lt.1 hk_), Nat.ne_of_gt (Nat.lt_of_lt_of_le HT.out.lt.2 hk_)⟩); (case aO => (first | exact HR.out | exact Kd.R_drewN HR.out _)); (case aS => exact HT.out.hB.size); (case aL => omega); intro v1 w1 ho hb hg hat; have HP := Aside0.mk (impl_turnsAt.TS.put (HT.out.drewN nd) HV.out (Kd.R_drewN HR.out nd) ho hb hg); obtain ⟨A1, c1, rfl⟩ := Kd.R_slice ho; have co1 := cell_of_one HP.out.1; have fo1 := free_of_one HP.out.1; clear ho hb hg hat))
    first | go_end0 | ((try simp only [Exit.inBlock, Exit.then]); refine bodyPost_ret (results_none rfl _ _ _) rfl ?_)
    exact ⟨rfl, ⟨by rw [← h3]; exact HP.out.2⟩⟩
  · have c2 : t = false := by simpa using c
    subst c2
    rw [if_neg (by simp)] at h3
    go_enter Tryd.func46, Tryd.ntmps46
    go_wp2_with fail
    go_at_call 47
    refine (C.out _ (by first | exact HT.out.hB | exact pw_below_drewN HT.out.hB _)).mono ?_
    rintro e w' ⟨rfl, ⟨nd, rfl⟩⟩
    go_wp2_with fail
    first | go_end0 | ((try simp only [Exit.inBlock, Exit.then]); refine bodyPost_ret (results_none rfl _ _ _) rfl ?_)
    exact ⟨rfl, ⟨by rw [← h3]; exact HT.out.drewN nd⟩⟩
theorem impl_turnsAt.add_len {k : Nat} {rule : Int} {l r : List Int} {m : Int} (h : impl_turnsAt.add k rule l m = some r) : r.length ≤ l.length + 1 := by
  unfold impl_turnsAt.add at h
  obtain ⟨t, _, h2⟩ := Option.bind_eq_some_iff.mp h
  rw [← Option.some.inj h2]
  split <;> simp
theorem impl_turnsAt.empty (W : World) (base g : Nat) (ok : Nat → Prop) (h : W.heap[g]? = some (.cells #[] 67)) (hb : base ≤ g) (hok : ok g) : Kd.R (Kd.int .u32) 67 W base ok (.slice (some ⟨g, 0, none⟩) 0 0) [] :=
  ⟨fun k hk => by
    have e : g = k := by simpa [Value.ownBlock] using hk
    rw [← e]
    exact hok, [], ⟨rfl, .inr ⟨g, 0, #[], rfl, hb, h, Nat.le_refl _, Nat.zero_le _, rfl, rfl⟩⟩, Reps.none _ _⟩
theorem impl_turnsAt.begun (w : World) (rule : Int) : impl_turnsAt.TS w (((w.alloc (.cells #[.int .i64 rule] 2)).alloc (.cells #[] 67)).alloc (.cells #[.slice (some ⟨w.heap.size + 1, 0, none⟩) 0 0] 65)) w.heap.size (w.heap.size + 1 + 1) rule [] := by
  have s1 : (w.alloc (.cells #[.int .i64 rule] 2)).heap.size = w.heap.size + 1 := by simp
  have s2 : ((w.alloc (.cells #[.int .i64 rule] 2)).alloc (.cells #[] 67)).heap.size = w.heap.size + 1 + 1 := by simp
  refine ⟨below_alloc (below_alloc (below_alloc (Below.refl _ _) _) _) _, Nat.le_refl _, by omega, by omega, ?_, .slice (some ⟨w.heap.size + 1, 0, none⟩) 0 0, ?_, impl_turnsAt.empty _ _ _ _ ?_ (by omega) ⟨by omega, by omega⟩⟩
  · rw [heap_alloc_old _ _ (by omega), heap_alloc_old _ _ (by omega), heap_alloc_new]
  · have e := heap_alloc_new ((w.alloc (.cells #[.int .i64 rule] 2)).alloc (.cells #[] 67)) (.cells #[.slice (some ⟨w.heap.size + 1, 0, none⟩) 0 0] 65)
    rw [s2] at e
    exact e
  · rw [heap_alloc_old _ _ (by omega)]
    exact heap_alloc2_new w _ _
set_option maxHeartbeats 1600000 in
set_option maxRecDepth 100000 in
theorem impl_turnsAt.calls (k : Nat) (a0 : Int) (a1 : Int) (r : List Int) (w : World) (hLaid32_ : Laid32 w) (h : impl_turnsAt.f k a0 a1 = some r) :
    Calls Tryd.prog 29 #[.int .i64 a0, .int .i64 a1] w fun e w' => ∃ v0_ : Value, e = .returned (v0_) ∧ Kd.R (Kd.int .u32) 67 w' w.heap.size (fun _ => True) v0_ r ∧ Below w.heap.size w w' := by
  unfold impl_turnsAt.f at h
  by_cases c0 : 0 ≤ a1
  · rw [if_pos c0] at h
    by_cases c1 : a1 ≤ 23
    · rw [if_pos c1] at h
      obtain ⟨C, rfl⟩ := Int.eq_ofNat_of_zero_le c0
      rw [Int.toNat_natCast] at h
      obtain ⟨top, htop⟩ : ∃ j_ : Int, (2 : Int) ^ C % 4294967296 = j_ := ⟨_, rfl⟩
      rw [htop] at h
      obtain ⟨l1, g1, hh⟩ := Option.bind_eq_some_iff.mp h
      obtain ⟨l2, g2, hh2⟩ := Option.bind_eq_some_iff.mp hh
      obtain ⟨l3, g3, hh3⟩ := Option.bind_eq_some_iff.mp hh2
      obtain ⟨l4, g4, hh4⟩ := Option.bind_eq_some_iff.mp hh3
      have h5 := Option.some.inj hh4
      subst h5
      have HL := Aside0.mk hLaid32_
      have LL1 := impl_turnsAt.add_len g1
      have LL := Aside0.mk (show l1.length ≤ 1 + 0 * 24 by simpa using LL1)
      have G1 := Aside0.mk g1
      have G2 := Aside0.mk g2
      have G3 := Aside0.mk g3
      have G4 := Aside0.mk g4
      have C1 := Aside0.mk c1
      have hminC : min C 32 = C := by omega
      have c0b0 := eq_true c0
      have c0b1 : decide (0 ≤ (C : Int)) = true := decide_eq_true c0
      clear g1 g2 g3 g4 hLaid32_ LL1 h hh hh2 hh3 hh4 c0 c1
      have HT0 := Aside0.mk (impl_turnsAt.begun w a0)
      go_enter Tryd.func29, Tryd.ntmps29
      go_wp2_with fail
      go_at_call 46
      refine (impl_turnsAt.clo k w _ w.heap.size (w.heap.size + 1 + 1) a0 [] l1 top HT0.out HL.out (by simp) G1.out).mono ?_
      rintro e w1 ⟨rfl, HT1⟩
      clear HT0
      go_wp2_with fail
      go_loopw [18] (fun v18 w' => ∃ (n : Nat) (l : List Int), n ≤ C ∧ v18 = .int .i64 n ∧ Aside0 (impl_turnsAt.out k a0 top (C - n) n l = some l2) ∧ Aside0 (l.length ≤ 1 + n * 24) ∧ Aside0 (impl_turnsAt.TS w w' w.heap.size (w.heap.size + 1 + 1) a0 l)) (fun v18 w' => C - (intOf v18).toNat)
      case atStart => exact ⟨0, l1, Nat.zero_le _, rfl, G2, LL, HT1⟩
      case round =>
        clear HT1 G1 G2 LL
        obtain ⟨n, l, hn, rfl, HO, LL, HT⟩ := hrel
        have cb := cell_of_one HT.out.h1
        have hminn : min n 32 = n := by have := C1.out; omega
        by_cases hlt : n < C
        · obtain ⟨d, hd⟩ : ∃ d, C - n = d + 1 := ⟨C - n - 1, by omega⟩
          have ho := HO.out
          rw [hd] at ho
          have hlc := C1.out
          unfold impl_turnsAt.out at ho
          by_cases c4 : a0 = 4
          · rw [if_pos c4] at ho
            subst c4
            obtain ⟨la, ga, gb⟩ := Option.bind_eq_some_iff.mp ho
            have hla := impl_turnsAt.add_len ga
            have hll := LL.out
            have GA := Aside0.mk ga
            have GF := Aside0.mk (show impl_turnsAt.out k 4 top (C - (n + 1)) (n + 1) la = some l2 by rw [show C - (n + 1) = d by omega]; exact gb)
            have LLA := Aside0.mk (show la.length ≤ 1 + (n + 1) * 24 by omega)
            clear ho ga gb hla HO
            go_wp2_with fail
            go_at_call 46
            refine (impl_turnsAt.clo k w _ w.heap.size (w.heap.size + 1 + 1) 4 l la _ HT.out HL.out (by omega) GA.out).mono ?_
            rintro e w2 ⟨rfl, HT2⟩
            clear HT cb hll
            go_wp2_with fail
            exact ⟨⟨n + 1, la, by omega, by go_num, GF, LLA, HT2⟩, by simp [intOf]; omega⟩
          · rw [if_neg c4] at ho
            have c4b : (a0 == 4) = false := beq_eq_false_iff_ne.mpr c4
            obtain ⟨la, ga, hh⟩ := Option.bind_eq_some_iff.mp ho
            obtain ⟨lb, gb, gc⟩ := Option.bind_eq_some_iff.mp hh
            have hla := impl_turnsAt.add_len ga
            have hll := LL.out
            have GA := Aside0.mk ga
            have GB := Aside0.mk gb
            have GC := Aside0.mk gc
            have LLA := Aside0.mk (show la.length ≤ 2 + n * 24 by omega)
            clear ho hh ga gb gc hla HO
            go_wp2_with fail
            go_at_call 46
            refine (impl_turnsAt.clo k w _ w.heap.size (w.heap.size + 1 + 1) a0 l la _ HT.out HL.out (by omega) GA.out).mono ?_
            rintro e w2 ⟨rfl, HT2⟩
            clear HT cb hll
            go_wp2_with fail
            go_loopw [37] (fun v37 w' => ∃ (j : Nat) (l' : List Int), j ≤ n ∧ v37 = .int .i64 j ∧ Aside0 (impl_turnsAt.in k a0 (Go.bits .or .u32 top (2 ^ n % 4294967296)) (n - j) j l' = some lb) ∧ Aside0 (l'.length ≤ 2 + n * 24 + j) ∧ Aside0 (impl_turnsAt.TS w w' w.heap.size (w.heap.size + 1 + 1) a0 l')) (fun v37 w' => n - (intOf v37).toNat)
            case atStart => exact ⟨0, la, Nat.zero_le _, rfl, GB, LLA, HT2⟩
            case round =>
              clear HT2 GA GB LLA
              obtain ⟨j, l', hj, rfl, HI, LI, HT⟩ := hrel
              have hminj : min j 32 = j := by omega
              by_cases hjl : j < n
              · obtain ⟨d2, hd2⟩ : ∃ d, n - j = d + 1 := ⟨n - j - 1, by omega⟩
                have hi := HI.out
                rw [hd2] at hi
                unfold impl_turnsAt.in at hi
                obtain ⟨lc, gd, ge⟩ := Option.bind_eq_some_iff.mp hi
                have hlc2 := impl_turnsAt.add_len gd
                have hll := LI.out
                have GD := Aside0.mk gd
                have GE := Aside0.mk (show impl_turnsAt.in k a0 (Go.bits .or .u32 top (2 ^ n % 4294967296)) (n - (j + 1)) (j + 1) lc = some lb by rw [show n - (j + 1) = d2 by omega]; exact ge)
                have LLC := Aside0.mk (show lc.length ≤ 2 + n * 24 + (j + 1) by omega)
                clear hi gd ge hlc2 HI LI
                go_wp2_with fail
                go_still_tail 8, (by kernel_rfl)
                change wpList _ _ _ _ _ wr.drew
                have HTd := Aside0.mk (HT.out.drewN 1)
                generalize hwd : wr.drew = wd
                have HTe := Aside0.mk (show impl_turnsAt.TS w wd w.heap.size (w.heap.size + 1 + 1) a0 l' by rw [← hwd]; exact HTd.out)
                clear HTd hwd HT
                have HT := HTe
                clear HTe
                go_wp2_with fail
                go_at_call 46
                refine (impl_turnsAt.clo k w _ w.heap.size (w.heap.size + 1 + 1) a0 l' lc _ HT.out HL.out (by omega) GD.out).mono ?_
                rintro e w3 ⟨rfl, HT3⟩
                clear HT hll
                go_wp2_with fail
                exact ⟨⟨j + 1, lc, by omega, by go_num, GE, LLC, HT3⟩, by simp [intOf]; omega⟩
              · have ej : n - j = 0 := by omega
                have hi := HI.out
                rw [ej] at hi
                have e2 : l' = lb := Option.some.inj hi
                have hll := LI.out
                have LLB := Aside0.mk (show lb.length ≤ 1 + (n + 1) * 24 by rw [← e2]; omega)
                have HT3 := HT.out
                rw [e2] at HT3
                have HT4 := Aside0.mk HT3
                have GF := Aside0.mk (show impl_turnsAt.out k a0 top (C - (n + 1)) (n + 1) lb = some l2 by rw [show C - (n + 1) = d by omega]; exact GC.out)
                clear hi hll HT HT3 HI LI GC e2
                have hjl0 : decide ((j : Int) < (n : Int)) = false := decide_eq_false (by omega)
                go_wp2_with fail
                exact ⟨⟨n + 1, lb, by omega, by go_num, GF, LLB, HT4⟩, by simp [intOf]; omega⟩
        · have en : C - n = 0 := by omega
          have ho := HO.out
          rw [en] at ho
          have e2 : l = l2 := Option.some.inj ho
          have enC : n = C := by omega
          subst enC
          have HT3 := HT.out
          rw [e2] at HT3
          obtain ⟨v, hv, hR⟩ := HT3.h2
          have co := cell_of_one hv
          have HT4 := Aside0.mk HT3
          have HV := Aside0.mk hv
          have HR := Aside0.mk hR
          obtain ⟨A1, cc1, rfl⟩ := Kd.R_slice hR
          have hb4 := HT4.out.hB
          clear ho HO HT HT3 hv hR e2 LL cb
          go_wp2_with fail
          go_at_call 48
          refine (slices_Sort_uint32_uint32.calls k _ _ l2 l3 w _ HT4.out.hB HR.out G3.out).mono ?_
          rintro e w3 ⟨rfl, hR3, hB3, hK3⟩
          have e2 : w3.heap[w.heap.size + 1 + 1]? = wr.heap[w.heap.size + 1 + 1]? := hK3.2 _ HT4.out.lt.2 (fun hp => hp.2 rfl)
          have co3 := cell_of_one (e2.trans HV.out)
          have HR3 := Aside0.mk hR3
          have HB3 := Aside0.mk hB3
          clear hR3 hB3 hK3 e2 co
          go_wp2_with fail
          go_at_call 49
          refine (slices_Compact_uint32_uint32.calls k _ _ l3 l4 w _ HB3.out HR3.out G4.out).mono ?_
          rintro e w4 ⟨v4, rfl, hR4, hB4, hK4⟩
          have HR4 := Aside0.mk (Kd.R_mono (ok' := fun _ => True) hR4 (fun _ _ => trivial))
          have HB4 := Aside0.mk hB4
          clear hR4 hB4 hK4
          go_wp2_with fail
          go_ret
          exact ⟨v4, rfl, HR4.out, HB4.out⟩
    · rw [if_neg c1] at h
      exact absurd h (by simp)
  · rw [if_neg c0] at h
    exact absurd h (by simp)

/-! ### slices_Index_bool_bool: function 50 -/
def slices_Index_bool_bool.l0 : Nat → List Bool → Bool → Int → Int → Option (Int)
  | 0, _, _, _, _ => none
  | k + 1, x0, x1, x7, x8 => if x8 < x7 then (if 0 ≤ x8 then (if x8 < (x0.length : Int) then (if (x1 == (rdOf false x0 x8)) = true then (some x8) else (slices_Index_bool_bool.l0 k x0 x1 x7 (wrap64 (x8 + 1)))) else (none)) else (none)) else (some (-1))
def slices_Index_bool_bool.f (k : Nat) (l0 : List Bool) (a1 : Bool) : Option (Int) := slices_Index_bool_bool.l0 k l0 a1 (l0.length : Int) 0
theorem slices_Index_bool_bool.mono_l : ∀ k, (∀ y0 y1 y2 y3, LeO (slices_Index_bool_bool.l0 k y0 y1 y2 y3) (slices_Index_bool_bool.l0 (k + 1) y0 y1 y2 y3))
  | 0 => fun _ _ _ _ r h => by simp [slices_Index_bool_bool.l0] at h
  | k + 1 => by
    have ih0 := slices_Index_bool_bool.mono_l k
    · intro y0 y1 y2 y3
      unfold slices_Index_bool_bool.l0
      repeat' first
      | (with_reducible exact ih0 _ _ _ _)
      | (with_reducible exact LeO.refl _)
      | (with_reducible exact LeO.none _)
      | (with_reducible refine LeO.ite ?_ ?_)
      | (with_reducible refine LeO.bind ?_ (fun _ => ?_))
      | exact ih0 _ _ _ _
      | exact LeO.none _
      | refine LeO.ite ?_ ?_
      | refine LeO.bind ?_ (fun _ => ?_)
theorem slices_Index_bool_bool.mono : ∀ a0 a1 k, LeO (slices_Index_bool_bool.f k a0 a1) (slices_Index_bool_bool.f (k + 1) a0 a1) := by
  intro a0 a1 k
  have ih0 := slices_Index_bool_bool.mono_l k
  unfold slices_Index_bool_bool.f
  repeat' first
      | (with_reducible exact ih0 _ _ _ _)
      | (with_reducible exact LeO.refl _)
      | (with_reducible exact LeO.none _)
      | (with_reducible refine LeO.ite ?_ ?_)
      | (with_reducible refine LeO.bind ?_ (fun _ => ?_))
      | exact ih0 _ _ _ _
      | exact LeO.none _
      | refine LeO.ite ?_ ?_
      | refine LeO.bind ?_ (fun _ => ?_)
set_option maxHeartbeats 8000000 in
set_option maxRecDepth 100000 in
theorem slices_Index_bool_bool.calls (k : Nat) (A0 : Option Addr) (c0 : Nat) (l0 : List Bool) (a1 : Bool) (r : Int) (w : World) (hr0 : Kd.C Kd.bool w A0 l0.length l0) (hc0 : l0.length ≤ c0) (h : slices_Index_bool_bool.f k l0 a1 = some r) :
    Calls Tryd.prog 50 #[.slice A0 l0.length c0, .bool a1] w fun e w' => e = .returned (.int .i64 r) ∧ Drawn0 w w' := by
  have HR0 := Aside0.mk hr0
  have HC0 := Aside0.mk hc0
  clear hr0 hc0
  have H : (slices_Index_bool_bool.l0 k l0 a1 (l0.length : Int) 0) = some r := h
  clear h
  have H' := Aside0.mk H
  clear H
  go_enter Tryd.func50, Tryd.ntmps50
  go_wp2
  go_loopg [8] k (fun kq v8 w' => ∃ (x8_1 : Int), v8 = .int .i64 x8_1 ∧ Aside0 (slices_Index_bool_bool.l0 kq l0 a1 (l0.length : Int) x8_1 = some r) ∧ Aside0 (kq ≤ k) ∧ Drawn0 w w')
  case atStart => exact ⟨(0), (by first | rfl | (simp; done) | (simp [*]; done)), H', ⟨Nat.le_refl _⟩, by repeat (first | exact Drawn0.refl _ | apply Drawn0.step)⟩
  case round =>
    clear H'
    try clear p2
    obtain ⟨x8_1, rfl, HA, HK1, ⟨m1, rfl⟩⟩ := hrel
    cases gk with
    | zero => exact absurd HA.out (by simp [slices_Index_bool_bool.l0])
    | succ k1 =>
      have H := HA.out
      clear HA
      simp only [slices_Index_bool_bool.l0] at H
      by_cases c3 : x8_1 < (l0.length : Int)
      · rw [if_pos c3] at H
        have c3b0 : decide (x8_1 < (l0.length : Int)) = true := decide_eq_true c3
        clear c3
        by_cases c4 : 0 ≤ x8_1
        · rw [if_pos c4] at H
          have c4b0 : decide (0 ≤ x8_1) = true := decide_eq_true c4
          clear c4
          by_cases c5 : x8_1 < (l0.length : Int)
          · rw [if_pos c5] at H
            have c5b0 : decide (x8_1 < (l0.length : Int)) = true := decide_eq_true c5
            clear c5
            by_cases c6 : (a1 == (rdOf false l0 x8_1)) = true
            · rw [if_pos c6] at H
              have c6b0 : (a1 == (rdOf false l0 x8_1)) = true := c6
              (try (have c6b1 : decide (a1 = (rdOf false l0 x8_1)) = true := by simpa using c6))
              (try (have c6b2 : (a1 == (rdOf false l0 x8_1)) = true := by simpa using c6))
              clear c6
              obtain rfl := Option.some.inj H
              have p238 : 0 ≤ (x8_1 : Int) := of_decide_eq_true (by first | (with_reducible assumption) | assumption)
              have q238 : x8_1 < (l0.length : Int) := of_decide_eq_true (by first | (with_reducible assumption) | assumption)
              obtain ⟨ad238, e238, hx238_0⟩ := Kd.at_bool HR0.out x8_1 p238 q238
              cases e238
              replace p238 := eq_true p238
              replace q238 := eq_true q238
              go_wp2
              go_ret
              exact ⟨by first | rfl | (simp; done) | (simp [*]; done), by repeat (first | exact Drawn0.refl _ | apply Drawn0.step)⟩
            · rw [if_neg c6] at H
              have c6b0 : (a1 == (rdOf false l0 x8_1)) = false := by simpa using c6
              (try (have c6b1 : decide (a1 = (rdOf false l0 x8_1)) = false := by simpa using c6))
              (try (have c6b2 : (a1 == (rdOf false l0 x8_1)) = false := by simpa using c6))
              (try (have c6b3 : ¬ (a1 = (rdOf false l0 x8_1)) := by simpa using c6))
              clear c6
              have H' := Aside0.mk H
              clear H
              have p238 : 0 ≤ (x8_1 : Int) := of_decide_eq_true (by first | (with_reducible assumption) | assumption)
              have q238 : x8_1 < (l0.length : Int) := of_decide_eq_true (by first | (with_reducible assumption) | assumption)
              obtain ⟨ad238, e238, hx238_0⟩ := Kd.at_bool HR0.out x8_1 p238 q238
              cases e238
              replace p238 := eq_true p238
              replace q238 := eq_true q238
              go_wp2
              go_roundg k1
              case measure => have := HK1.out; omega
              case rel => exact ⟨(wrap64 (x8_1 + 1)), (by first | rfl | (simp; done) | (simp [*]; done)), H', ⟨by have := HK1.out; omega⟩, by repeat (first | exact Drawn0.refl _ | apply Drawn0.step)⟩
          · rw [if_neg c5] at H
            exact absurd H (by simp)
        · rw [if_neg c4] at H
          exact absurd H (by simp)
      · rw [if_neg c3] at H
        have c3b0 : decide (x8_1 < (l0.length : Int)) = false := decide_eq_false c3
        clear c3
        obtain rfl := Option.some.inj H
        go_wp2
        go_ret
        exact ⟨by first | rfl | (simp; done) | (simp [*]; done), by repeat (first | exact Drawn0.refl _ | apply Drawn0.step)⟩

/-! ### impl_mex: function 30 -/
def impl_mex.l0 : Nat → List Bool → List Int → Int → Int → Option (Int)
  | 0, _, _, _, _ => none
  | k + 1, x3, x10, x11, x12 => if x12 < x11 then (if 0 ≤ x12 then (if x12 < (x10.length : Int) then (if (wrap64 (rd x10 x12)) < (x3.length : Int) then (if 0 ≤ (rd x10 x12) then (if (rd x10 x12) < (x3.length : Int) then (impl_mex.l0 k (x3.set ((rd x10 x12) : Int).toNat true) x10 x11 (wrap64 (x12 + 1))) else (none)) else (none)) else (impl_mex.l0 k x3 x10 x11 (wrap64 (x12 + 1)))) else (none)) else (none)) else ((slices_Index_bool_bool.f k x3 false).bind fun t244 => (some t244))
def impl_mex.f (k : Nat) (l0 : List Int) : Option (Int) := if 0 ≤ (wrap64 ((l0.length : Int) + 1)) then (if (wrap64 ((l0.length : Int) + 1) : Int).toNat ≤ 281474976710656 then (impl_mex.l0 k (List.replicate (wrap64 ((l0.length : Int) + 1) : Int).toNat false) l0 (l0.length : Int) 0) else (none)) else (none)
theorem impl_mex.mono_l : ∀ k, (∀ y0 y1 y2 y3, LeO (impl_mex.l0 k y0 y1 y2 y3) (impl_mex.l0 (k + 1) y0 y1 y2 y3))
  | 0 => fun _ _ _ _ r h => by simp [impl_mex.l0] at h
  | k + 1 => by
    have ih0 := impl_mex.mono_l k
    · intro y0 y1 y2 y3
      unfold impl_mex.l0
      repeat' first
      | (with_reducible exact ih0 _ _ _ _)
      | (with_reducible exact slices_Index_bool_bool.mono _ _ _)
      | (with_reducible exact LeO.refl _)
      | (with_reducible exact LeO.none _)
      | (with_reducible refine LeO.ite ?_ ?_)
      | (with_reducible refine LeO.bind ?_ (fun _ => ?_))
      | exact ih0 _ _ _ _
      | exact slices_Index_bool_bool.mono _ _ _
      | exact LeO.none _
      | refine LeO.ite ?_ ?_
      | refine LeO.bind ?_ (fun _ => ?_)
theorem impl_mex.mono : ∀ a0 k, LeO (impl_mex.f k a0) (impl_mex.f (k + 1) a0) := by
  intro a0 k
  have ih0 := impl_mex.mono_l k
  unfold impl_mex.f
  repeat' first
      | (with_reducible exact ih0 _ _ _ _)
      | (with_reducible exact slices_Index_bool_bool.mono _ _ _)
      | (with_reducible exact LeO.refl _)
      | (with_reducible exact LeO.none _)
      | (with_reducible refine LeO.ite ?_ ?_)
      | (with_reducible refine LeO.bind ?_ (fun _ => ?_))
      | exact ih0 _ _ _ _
      | exact slices_Index_bool_bool.mono _ _ _
      | exact LeO.none _
      | refine LeO.ite ?_ ?_
      | refine LeO.bind ?_ (fun _ => ?_)
set_option maxHeartbeats 8000000 in
set_option maxRecDepth 100000 in
theorem impl_mex.calls (k : Nat) (A0 : Option Addr) (c0 : Nat) (l0 : List Int) (r : Int) (w : World) (hr0 : Kd.C (Kd.int .u16) w A0 l0.length l0) (hc0 : l0.length ≤ c0) (h : impl_mex.f k l0 = some r) :
    Calls Tryd.prog 30 #[.slice A0 l0.length c0] w fun e w' => e = .returned (.int .i64 r) ∧ Below w.heap.size w w' := by
  have HR0 := Aside0.mk hr0
  have HC0 := Aside0.mk hc0
  clear hr0 hc0
  have HB := Aside0.mk (Below.refl w.heap.size w)
  have H : (if 0 ≤ (wrap64 ((l0.length : Int) + 1)) then (if (wrap64 ((l0.length : Int) + 1) : Int).toNat ≤ 281474976710656 then (impl_mex.l0 k (List.replicate (wrap64 ((l0.length : Int) + 1) : Int).toNat false) l0 (l0.length : Int) 0) else (none)) else (none)) = some r := h
  clear h
  obtain ⟨ji2, hji2⟩ : ∃ j_ : Int, (wrap64 ((l0.length : Int) + 1)) = j_ := ⟨_, rfl⟩
  replace H : (if 0 ≤ (ji2) then (if (ji2 : Int).toNat ≤ 281474976710656 then (impl_mex.l0 k (List.replicate (ji2 : Int).toNat false) l0 (l0.length : Int) 0) else (none)) else (none)) = some r := by first | (rw [hji2] at H; exact H) | (simp only [hji2] at H ⊢; exact H)
  have hji2w : (IntKind.i64.wrap ((l0.length : Int) + 1)) = ji2 := (i64_w _).trans hji2
  by_cases c3 : 0 ≤ (ji2)
  · rw [if_pos c3] at H
    have c3b0 := eq_true c3
    have c3b1 : decide (0 ≤ (ji2)) = true := decide_eq_true c3
    clear c3
    by_cases c4 : (ji2 : Int).toNat ≤ 281474976710656
    · rw [if_pos c4] at H
      have c4b0 := eq_true c4
      have c4b1 : decide ((ji2 : Int).toNat ≤ 281474976710656) = true := decide_eq_true c4
      clear c4
      obtain ⟨y239, hy239⟩ : ∃ y_ : List Bool, y_ = (List.replicate (ji2 : Int).toNat false) := ⟨_, rfl⟩
      replace H : (impl_mex.l0 k y239 l0 (l0.length : Int) 0) = some r := by first | (rw [hy239]; with_reducible exact H) | (have H2_ := (Option.bind_some _ _).symm.trans H; rw [hy239]; with_reducible exact H2_) | (have H2_ := (Option.bind_some _ _).symm.trans H; with_reducible exact H2_) | with_reducible exact H | (rw [hy239]; exact H) | exact H
      have Ny239 := Aside0.mk hy239
      clear hy239
      have H' := Aside0.mk H
      clear H
      go_enter Tryd.func30, Tryd.ntmps30
      go_wp2_with (first | ((with_reducible refine gate_dst (N := 9) rfl ?_); refine Kd.R_make Kd.bool _ 4 rfl (N := 9) rfl 93 _ _ rfl ji2 rfl rfl Tryd.underlying93 (.bool false) 1 info4 rfl (by decide) (by omega) false (ok := fun _ => True) (okp := fun _ => True) rfl (fun _ hk => hk) trivial (of_decide_eq_true (by first | (with_reducible assumption) | assumption)) (Nat.le_trans (Nat.mul_le_mul_right _ (of_decide_eq_true (by first | (with_reducible assumption) | assumption) : ji2.toNat ≤ 281474976710656)) (by omega)) (Below.refl _ _) (Nat.le_refl _) ?_; intro v240 w5 ho6 hb hg_ hnew_; clear hg_ hnew_; (first | rw [← Ny239.out] at ho6 | (simp only [Int.reduceToNat] at ho6; rw [← Ny239.out] at ho6)); have n0_ := Aside0.mk (Kd.R_lower ho6 (below_size (by repeat (first | (with_reducible first | exact HB.out | apply below_alloc | apply pw_below_drewN | apply below_drew1) | exact HB.out)))); have n1_ := Aside0.mk (below_step (by repeat (first | (with_reducible first | exact HB.out | apply below_alloc | apply pw_below_drewN | apply below_drew1) | exact HB.out)) hb); clear HB; have HO241 := n0_; have HB := n1_; clear n0_ n1_; clear hb ho6))
      go_loopg [12] k (fun kq v12 w' => ∃ (x3_1 : List Bool) (x12_1 : Int), v12 = .int .i64 x12_1 ∧ Aside0 (impl_mex.l0 kq x3_1 l0 (l0.length : Int) x12_1 = some r) ∧ Aside0 (kq ≤ k) ∧ Aside0 (Kd.R Kd.bool 4 w' w.heap.size (fun _ => True) v240 x3_1) ∧ Aside0 (Below w.heap.size w w'))
      case atStart => exact ⟨(y239), (0), (by first | rfl | (simp; done) | (simp [*]; done)), H', ⟨Nat.le_refl _⟩, ⟨by (with_reducible repeat (first | apply Kd.R_alloc | apply Kd.R_drewN | apply Kd.R_drew)); exact HO241.out⟩, ⟨by repeat (first | (with_reducible first | exact HB.out | apply below_alloc | apply pw_below_drewN | apply below_drew1) | exact HB.out)⟩⟩
      case round =>
        clear H'
        try clear p2
        try clear c3
        try clear c3b0
        try clear c3b1
        try clear c4
        try clear c4b0
        try clear c4b1
        try clear p6
        obtain ⟨x3_1, x12_1, rfl, HA, HK1, HO_3, HB⟩ := hrel
        cases gk with
        | zero => exact absurd HA.out (by simp [impl_mex.l0])
        | succ k1 =>
          have H := HA.out
          clear HA
          simp only [impl_mex.l0] at H
          by_cases c7 : x12_1 < (l0.length : Int)
          · rw [if_pos c7] at H
            have c7b0 : decide (x12_1 < (l0.length : Int)) = true := decide_eq_true c7
            clear c7
            by_cases c8 : 0 ≤ x12_1
            · rw [if_pos c8] at H
              have c8b0 : decide (0 ≤ x12_1) = true := decide_eq_true c8
              clear c8
              by_cases c9 : x12_1 < (l0.length : Int)
              · rw [if_pos c9] at H
                have c9b0 : decide (x12_1 < (l0.length : Int)) = true := decide_eq_true c9
                clear c9
                by_cases c10 : (wrap64 (rd l0 x12_1)) < (x3_1.length : Int)
                · rw [if_pos c10] at H
                  have c10b0 : decide ((wrap64 (rd l0 x12_1)) < (x3_1.length : Int)) = true := decide_eq_true c10
                  clear c10
                  by_cases c11 : 0 ≤ (rd l0 x12_1)
                  · rw [if_pos c11] at H
                    have c11b0 : decide (0 ≤ (rd l0 x12_1)) = true := decide_eq_true c11
                    clear c11
                    by_cases c12 : (rd l0 x12_1) < (x3_1.length : Int)
                    · rw [if_pos c12] at H
                      have c12b0 : decide ((rd l0 x12_1) < (x3_1.length : Int)) = true := decide_eq_true c12
                      clear c12
                      obtain ⟨y243, hy243⟩ : ∃ y_ : List Bool, y_ = (x3_1.set ((rd l0 x12_1) : Int).toNat true) := ⟨_, rfl⟩
                      replace H : (impl_mex.l0 k1 y243 l0 (l0.length : Int) (wrap64 (x12_1 + 1))) = some r := by first | (rw [hy243]; with_reducible exact H) | (have H2_ := (Option.bind_some _ _).symm.trans H; rw [hy243]; with_reducible exact H2_) | (have H2_ := (Option.bind_some _ _).symm.trans H; with_reducible exact H2_) | with_reducible exact H | (rw [hy243]; exact H) | exact H
                      have Ny243 := Aside0.mk hy243
                      clear hy243
                      have H' := Aside0.mk H
                      clear H
                      have p242 : 0 ≤ (x12_1 : Int) := of_decide_eq_true (by first | (with_reducible assumption) | assumption)
                      have q242 : x12_1 < (l0.length : Int) := of_decide_eq_true (by first | (with_reducible assumption) | assumption)
                      obtain ⟨ad242, e242, hx242_0⟩ := Kd.at_int HR0.out x12_1 p242 q242
                      cases e242
                      replace hx242_0 := (HB.out.cell (World.block_lt_of_cell? w _ hx242_0)).trans hx242_0
                      replace p242 := eq_true p242
                      replace q242 := eq_true q242
                      obtain ⟨Ao14, co14, eo14⟩ := Kd.R_slice HO_3.out
                      subst eo14
                      have p13 : 0 ≤ ((rd l0 x12_1) : Int) := of_decide_eq_true (by first | (with_reducible assumption) | assumption)
                      have q13 : ((rd l0 x12_1) : Int) < ((x3_1.length : Int) : Int) := of_decide_eq_true (by first | (with_reducible assumption) | assumption)
                      obtain ⟨go13, co13, eo13, gb13, gl13, cl13, HG13⟩ := Kd.R_form HO_3.out (by omega)
                      (first | cases eo13 | (injection eo13 with ea_ en_ ec_; (first | subst ea_ | (injection ea_ with ea_; subst ea_)); subst ec_; clear en_))
                      have GB13 := Aside0.mk gb13
                      have GG13 := Aside0.mk HG13
                      clear gb13 gl13 HG13
                      obtain ⟨hx13_0, hf13_0⟩ := Kd.R_celln false HO_3.out ((rd l0 x12_1) : Int) p13 q13
                      replace p13 := eq_true p13
                      replace q13 := eq_true q13
                      have HP15 := Kd.R_putg HO_3.out ((rd l0 x12_1) : Int) true
                      go_wp2_with (first | ((with_reducible refine gate_store (t := 4) (p := 23) rfl ?_); refine store_event (t := 4) (p := 23) (v := ?vo_w16) (w1 := (wr.setCell ⟨go13, ((rd l0 x12_1) : Int).toNat, none⟩ (.bool true))) ?hg ?ho ?hn ?hr ?_; (case ho => rfl); (case hg => rfl); (case hn => rfl); (case hr => first | (go_simp; done) | (go_simp; rfl)); intro w16 hw; have hg : wr.grownBy w16 (some go13) := (by rw [hw]; exact HP15.2); have hp_ : Kd.R Kd.bool 4 w16 w.heap.size (fun _ => True) (.slice (some ⟨go13, 0, none⟩) x3_1.length co14) y243 := (by rw [hw, Ny243.out]; exact HP15.1); clear HP15; have n0_ := Aside0.mk (hp_); have n1_ := Aside0.mk ((by rw [hw]; exact below_set (HB.out) GB13.out : Below w.heap.size w w16)); clear HO_3; clear HB; have HO_3 := n0_; have HB := n1_; clear n0_ n1_; clear hg hw hp_))
                      go_roundg k1
                      case measure => have := HK1.out; omega
                      case rel => exact ⟨(y243), (wrap64 (x12_1 + 1)), (by first | rfl | (simp; done) | (simp [*]; done)), H', ⟨by have := HK1.out; omega⟩, ⟨by (with_reducible repeat (first | apply Kd.R_alloc | apply Kd.R_drewN | apply Kd.R_drew)); exact HO_3.out⟩, ⟨by repeat (first | (with_reducible first | exact HB.out | apply below_alloc | apply pw_below_drewN | apply below_drew1) | exact HB.out)⟩⟩
                    · rw [if_neg c12] at H
                      exact absurd H (by simp)
                  · rw [if_neg c11] at H
                    exact absurd H (by simp)
                · rw [if_neg c10] at H
                  have c10b0 : decide ((wrap64 (rd l0 x12_1)) < (x3_1.length : Int)) = false := decide_eq_false c10
                  clear c10
                  have H' := Aside0.mk H
                  clear H
                  have p242 : 0 ≤ (x12_1 : Int) := of_decide_eq_true (by first | (with_reducible assumption) | assumption)
                  have q242 : x12_1 < (l0.length : Int) := of_decide_eq_true (by first | (with_reducible assumption) | assumption)
                  obtain ⟨ad242, e242, hx242_0⟩ := Kd.at_int HR0.out x12_1 p242 q242
                  cases e242
                  replace hx242_0 := (HB.out.cell (World.block_lt_of_cell? w _ hx242_0)).trans hx242_0
                  replace p242 := eq_true p242
                  replace q242 := eq_true q242
                  obtain ⟨Ao17, co17, eo17⟩ := Kd.R_slice HO_3.out
                  subst eo17
                  go_wp2
                  go_roundg k1
                  case measure => have := HK1.out; omega
                  case rel => exact ⟨(x3_1), (wrap64 (x12_1 + 1)), (by first | rfl | (simp; done) | (simp [*]; done)), H', ⟨by have := HK1.out; omega⟩, ⟨by (with_reducible repeat (first | apply Kd.R_alloc | apply Kd.R_drewN | apply Kd.R_drew)); exact HO_3.out⟩, ⟨by repeat (first | (with_reducible first | exact HB.out | apply below_alloc | apply pw_below_drewN | apply below_drew1) | exact HB.out)⟩⟩
              · rw [if_neg c9] at H
                exact absurd H (by simp)
            · rw [if_neg c8] at H
              exact absurd H (by simp)
          · rw [if_neg c7] at H
            have c7b0 : decide (x12_1 < (l0.length : Int)) = false := decide_eq_false c7
            clear c7
            replace H := Option.bind_eq_some_iff.mp H
            obtain ⟨t244, A180, H⟩ := H
            replace H : (some t244) = some r := H
            have A18 := Aside0.mk A180
            clear A180
            obtain rfl := Option.some.inj H
            obtain ⟨Ao19, co19, eo19⟩ := Kd.R_slice HO_3.out
            subst eo19
            go_wp2_with (first | ((with_reducible refine gate_callee (f := 50) rfl ?_); refine goesL_ (some 26) rfl rfl Tryd.func50 (by kernel_rfl) rfl #[.slice Ao19 x3_1.length co19, .bool false] rfl (by (try simp only [List.map_toArray, List.map_cons, List.map_nil]); first | done | rfl | (simp only [List.length_drop, List.length_take]; rfl)) ?_; (with_reducible refine (slices_Index_bool_bool.calls k1 _ _ x3_1 false t244 _ ?side1 ?side2 A18.out).mono ?_); (case side1 => repeat (first | exact (Kd.R_reads' HO_3.out).2.2 | (with_reducible refine Kd.C_alloc ?_ _) | (with_reducible refine Kd.C_drewN ?_ _) | (with_reducible refine Kd.C_drew ?_))); (case side2 => exact (Kd.R_reads' HO_3.out).2.1); rintro e w' ⟨rfl, ⟨nd, rfl⟩⟩; refine ⟨_, rfl, ?_⟩))
            go_ret
            exact ⟨by first | rfl | (simp [errW_none, errW_some] <;> rfl) | (simp only [← hji2]; first | rfl | (simp [errW_none, errW_some] <;> rfl)) | (simp [*, errW_none, errW_some] <;> rfl), by repeat (first | (with_reducible first | exact HB.out | apply below_alloc | apply pw_below_drewN | apply below_drew1) | exact HB.out)⟩
    · rw [if_neg c4] at H
      exact absurd H (by simp)
  · rw [if_neg c3] at H
    exact absurd H (by simp)

end Go.Proofs.YtdgglnjegkmamaaDoor.QFnExactRectangleByExclusion
