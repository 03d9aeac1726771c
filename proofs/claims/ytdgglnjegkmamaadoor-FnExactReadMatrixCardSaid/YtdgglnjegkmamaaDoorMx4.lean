/- Valid matrices: what the two programs' tests answer. No condition but the lengths and the kinds' bounds. -/
import Derived.Test.YtdgglnjegkmamaaDoorMx3
set_option linter.unusedVariables false
set_option linter.unusedSimpArgs false
namespace Go.Proofs.YtdgglnjegkmamaaDoor.Mx
open Go.RowKit Go.Proofs.YtdgglnjegkmamaaDoor.Arr Go.Proofs.YtdgglnjegkmamaaDoorW.PrintWords Go.Proofs.YtdgglnjegkmamaaDoorW.PrintLast

def inB (x lo hi : Int) : Bool := decide (lo ≤ x ∧ x ≤ hi)
theorem inB_iff {x lo hi : Int} : inB x lo hi = true ↔ lo ≤ x ∧ x ≤ hi := by simp [inB]
theorem within_any (x lo hi : Int) (w : World) : Calls Tryd.prog 33 #[.int .i64 x, .int .i64 lo, .int .i64 hi] w fun e w' => e = .returned (.bool (inB x lo hi)) ∧ Drawn0 w w' := by
  refine (QFnExactMatrixText.impl_within.calls x lo hi (inB x lo hi) w ?_)
  unfold QFnExactMatrixText.impl_within.f inB
  by_cases h : lo ≤ x <;> simp [h]
theorem l00In_any (x lo hi : Int) (w : World) : Calls Tryd.prog 22 #[.int .i64 x, .int .i64 lo, .int .i64 hi] w fun e w' => e = .returned (.bool (inB x lo hi)) ∧ Drawn0 w w' := by
  refine (QFnExactMatrixText.spec_l00In.calls x lo hi (inB x lo hi) w ?_)
  unfold QFnExactMatrixText.spec_l00In.f inB
  by_cases h : lo ≤ x <;> simp [h]
/-- A cell outside that is not 0. -/
def badP (r c : Int) (l : List Int) (i k : Nat) : Prop := (r ≤ i ∨ c ≤ k) ∧ l.getD (i * 6 + k) 0 ≠ 0
instance (r c : Int) (l : List Int) (i k : Nat) : Decidable (badP r c l i k) := inferInstanceAs (Decidable ((r ≤ i ∨ c ≤ k) ∧ l.getD (i * 6 + k) 0 ≠ 0))
def fbFrom (r c : Int) (l : List Int) : Nat → Nat → Nat
  | 0, j => j
  | d + 1, j => if badP r c l (j / 6) (j % 6) then j else fbFrom r c l d (j + 1)
theorem fbFrom_spec (r c : Int) (l : List Int) : ∀ (d j : Nat), j ≤ fbFrom r c l d j ∧ fbFrom r c l d j ≤ j + d ∧ (∀ m, j ≤ m → m < fbFrom r c l d j → ¬ badP r c l (m / 6) (m % 6)) ∧ (fbFrom r c l d j < j + d → badP r c l (fbFrom r c l d j / 6) (fbFrom r c l d j % 6)) := by
  intro d
  induction d with
  | zero => intro j; exact ⟨Nat.le_refl _, Nat.le_refl _, fun m h1 h2 => by simp [fbFrom] at h2; omega, fun h => by simp [fbFrom] at h⟩
  | succ d ih =>
    intro j
    obtain ⟨h1, h2, h3, h4⟩ := ih (j + 1)
    unfold fbFrom
    by_cases h : badP r c l (j / 6) (j % 6)
    · simp only [if_pos h]
      exact ⟨Nat.le_refl _, by omega, fun m a b => by omega, fun _ => h⟩
    · simp only [if_neg h]
      refine ⟨by omega, by omega, fun m a b => ?_, fun hh => h4 (by omega)⟩
      by_cases e : m = j
      · subst e; exact h
      · exact h3 m (by omega) b
/-- The first cell outside that is not 0; 36 where there is none. -/
def fb (r c : Int) (l : List Int) : Nat := fbFrom r c l 36 0
theorem fb_le (r c : Int) (l : List Int) : fb r c l ≤ 36 := by have := (fbFrom_spec r c l 36 0).2.1; unfold fb; omega
theorem fb_good {r c : Int} {l : List Int} {i k : Nat} (hk : k < 6) (h : i * 6 + k < fb r c l) : ¬ badP r c l i k := by
  have := (fbFrom_spec r c l 36 0).2.2.1 (i * 6 + k) (Nat.zero_le _) h
  rwa [show (i * 6 + k) / 6 = i by omega, show (i * 6 + k) % 6 = k by omega] at this
theorem fb_bad {r c : Int} {l : List Int} {i k : Nat} (hk : k < 6) (hi : i < 6) (h : i * 6 + k = fb r c l) : badP r c l i k := by
  have := (fbFrom_spec r c l 36 0).2.2.2 (by change fb r c l < _; omega)
  change badP r c l (fb r c l / 6) (fb r c l % 6) at this
  rwa [← h, show (i * 6 + k) / 6 = i by omega, show (i * 6 + k) % 6 = k by omega] at this
def okM (r c : Int) (l : List Int) : Bool := inB r 1 6 && inB c 1 6 && decide (fb r c l = 36)
theorem mat_cell {w : World} {b : Nat} {t : TypeId} {fr : Nat × Nat} {r c : Int} {l : List Int} (h : w.heap[b]? = some (.cells (mat r c l) t fr)) (hl : l.length = 36) {i k : Nat} (hi : i < 6) (hk : k < 6) : w.cell? ⟨b, 2 + i * 6 + k, none⟩ = some (.int .u16 (l.getD (i * 6 + k) 0)) := by
  rw [cell_of_row _ _ _ _ _ _ h, Nat.add_assoc, mat_2, List.getD_eq_getElem?_getD, List.getElem?_eq_getElem (by omega)]
  rfl
theorem mat_cell0 {w : World} {b : Nat} {t : TypeId} {fr : Nat × Nat} {r c : Int} {l : List Int} (h : w.heap[b]? = some (.cells (mat r c l) t fr)) : w.cell? ⟨b, 0, none⟩ = some (.int .i8 r) := by rw [cell_of_row _ _ _ _ _ _ h, mat_0]
theorem mat_cell1 {w : World} {b : Nat} {t : TypeId} {fr : Nat × Nat} {r c : Int} {l : List Int} (h : w.heap[b]? = some (.cells (mat r c l) t fr)) : w.cell? ⟨b, 1, none⟩ = some (.int .i8 c) := by rw [cell_of_row _ _ _ _ _ _ h, mat_1]
set_option maxHeartbeats 800000 in
set_option maxRecDepth 100000 in
theorem l02Ok_in (b : Nat) (t : TypeId) (r c : Int) (l : List Int) (hl : l.length = 36) (hr1 : 1 ≤ r) (hr2 : r ≤ 6) (hc1 : 1 ≤ c) (hc2 : c ≤ 6) (w : World) (hg : w.heap[b]? = some (.cells (mat r c l) t)) :
    Calls Tryd.prog 14 #[.pointer (some ⟨b, 0, none⟩)] w fun e w' => e = .returned (.bool (decide (fb r c l = 36))) ∧ Drawn0 w w' := by
  have HL := Aside0.mk hl
  have HG := Aside0.mk hg
  have f1 : inB r 1 6 = true := inB_iff.2 ⟨hr1, hr2⟩
  have f2 : inB c 1 6 = true := inB_iff.2 ⟨hc1, hc2⟩
  have g0 := mat_cell0 hg
  have g1 := mat_cell1 hg
  have hj := fb_le r c l
  generalize hjj : fb r c l = J at hj ⊢
  have HJ := Aside0.mk hjj
  clear hl hjj hg
  go_enter Tryd.func14, Tryd.ntmps14
  go_wp2_with (go_at_call 22; refine (l00In_any _ _ _ _).mono ?_; rintro e w1 ⟨rfl, ⟨n1, rfl⟩⟩)
  go_loopw [3] (fun i w' => ∃ n : Nat, n ≤ 6 ∧ i = .int .i64 n ∧ n * 6 ≤ J ∧ Drawn0 w w') (fun i w' => 6 - (intOf i).toNat)
  case atStart => exact ⟨0, by omega, rfl, by omega, ⟨_, rfl⟩⟩
  case round =>
    obtain ⟨n, hn, rfl, hnj, ⟨m1, rfl⟩⟩ := hrel
    by_cases hlt : n < 6
    · go_wp2_with fail
      go_loopw [4] (fun k w' => ∃ q : Nat, q ≤ 6 ∧ k = .int .i64 q ∧ n * 6 + q ≤ J ∧ Drawn0 w w') (fun k w' => 6 - (intOf k).toNat)
      case atStart => exact ⟨0, by omega, rfl, by omega, ⟨_, rfl⟩⟩
      case round =>
        obtain ⟨q, hq, rfl, hqj, ⟨m2, rfl⟩⟩ := hrel
        by_cases hlq : q < 6
        · have gx := mat_cell HG.out HL.out hlt hlq
          have HX := Aside0.mk (show (n * 6 + q = J → badP r c l n q) ∧ (n * 6 + q < J → ¬ badP r c l n q) from ⟨fun h => fb_bad hlq hlt (by rw [HJ.out]; exact h), fun h => fb_good hlq (by rw [HJ.out]; exact h)⟩)
          unfold badP at HX
          generalize l.getD (n * 6 + q) 0 = x at gx HX
          by_cases a1 : r ≤ (n : Int) <;> by_cases a2 : c ≤ (q : Int) <;> by_cases a3 : x = 0
          all_goals (first | (have b3 : (x != 0) = true := by simpa using a3) | (have b3 : (x != 0) = false := by simpa using a3))
          all_goals
            go_wp2_with fail
            first
              | exact ⟨⟨q + 1, by omega, by go_num, by have := HX.out; omega, ⟨_, rfl⟩⟩, by simp [intOf]; omega⟩
              | (go_ret; have e_ : decide (J = 36) = false := decide_eq_false (by have := HX.out; omega); exact ⟨by rw [e_]; rfl, ⟨_, rfl⟩⟩)
        · obtain rfl : q = 6 := by omega
          go_wp2_with fail
          exact ⟨⟨n + 1, by omega, by go_num, by omega, ⟨_, rfl⟩⟩, by simp [intOf]; omega⟩
    · obtain rfl : n = 6 := by omega
      go_wp2_with fail
      go_ret
      have e_ : decide (J = 36) = true := decide_eq_true (by omega)
      exact ⟨by rw [e_]; rfl, ⟨_, rfl⟩⟩
end Go.Proofs.YtdgglnjegkmamaaDoor.Mx
