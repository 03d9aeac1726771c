/- ValidMatrix, of both programs: whether all cells outside are 0. No condition but the lengths and the kinds' bounds. -/
import Derived.Test.YtdgglnjegkmamaaDoorMx4
set_option linter.unusedVariables false
set_option linter.unusedSimpArgs false
namespace Go.Proofs.YtdgglnjegkmamaaDoor.Mx
open Go.RowKit Go.Proofs.YtdgglnjegkmamaaDoor.Arr Go.Proofs.YtdgglnjegkmamaaDoorW.PrintWords Go.Proofs.YtdgglnjegkmamaaDoorW.PrintLast

set_option maxHeartbeats 800000 in
set_option maxRecDepth 100000 in
theorem l02Ok_out (b : Nat) (t : TypeId) (r c : Int) (l : List Int) (hb : -128 ≤ r ∧ r ≤ 127 ∧ -128 ≤ c ∧ c ≤ 127) (ho : inB r 1 6 = false ∨ inB c 1 6 = false) (w : World) (hg : w.heap[b]? = some (.cells (mat r c l) t)) :
    Calls Tryd.prog 14 #[.pointer (some ⟨b, 0, none⟩)] w fun e w' => e = .returned (.bool false) ∧ Drawn0 w w' := by
  have g0 := mat_cell0 hg
  have g1 := mat_cell1 hg
  obtain ⟨b1, b2, b3, b4⟩ := hb
  clear hg
  cases hr : inB r 1 6 with
  | false =>
    go_enter Tryd.func14, Tryd.ntmps14
    go_wp2_with (go_at_call 22; refine (l00In_any _ _ _ _).mono ?_; rintro e w1 ⟨rfl, ⟨n1, rfl⟩⟩)
    go_ret
    exact ⟨rfl, ⟨_, rfl⟩⟩
  | true =>
    have hc : inB c 1 6 = false := ho.resolve_left (by simp [hr])
    clear ho
    go_enter Tryd.func14, Tryd.ntmps14
    go_wp2_with (go_at_call 22; refine (l00In_any _ _ _ _).mono ?_; rintro e w1 ⟨rfl, ⟨n1, rfl⟩⟩)
    go_ret
    exact ⟨rfl, ⟨_, rfl⟩⟩
def I8 (r c : Int) : Prop := -128 ≤ r ∧ r ≤ 127 ∧ -128 ≤ c ∧ c ≤ 127
theorem okM_out {r c : Int} {l : List Int} (h : inB r 1 6 = false ∨ inB c 1 6 = false) : okM r c l = false := by
  unfold okM
  rcases h with h | h <;> simp [h]
theorem okM_in {r c : Int} {l : List Int} (h : inB r 1 6 = true) (h2 : inB c 1 6 = true) : okM r c l = decide (fb r c l = 36) := by
  unfold okM
  simp [h, h2]
theorem in_or_out (r c : Int) : (inB r 1 6 = true ∧ inB c 1 6 = true) ∨ (inB r 1 6 = false ∨ inB c 1 6 = false) := by
  cases inB r 1 6 <;> cases inB c 1 6 <;> simp
theorem l02Ok_any (b : Nat) (t : TypeId) (r c : Int) (l : List Int) (hl : l.length = 36) (hb : I8 r c) (w : World) (hg : w.heap[b]? = some (.cells (mat r c l) t)) :
    Calls Tryd.prog 14 #[.pointer (some ⟨b, 0, none⟩)] w fun e w' => e = .returned (.bool (okM r c l)) ∧ Drawn0 w w' := by
  rcases in_or_out r c with ⟨h1, h2⟩ | h
  · rw [okM_in h1 h2]
    obtain ⟨a1, a2⟩ := inB_iff.1 h1
    obtain ⟨a3, a4⟩ := inB_iff.1 h2
    exact l02Ok_in b t r c l hl a1 a2 a3 a4 w hg
  · rw [okM_out h]
    exact l02Ok_out b t r c l hb h w hg
set_option maxHeartbeats 800000 in
set_option maxRecDepth 100000 in
theorem implValid_out (r c : Int) (l : List Int) (hb : -128 ≤ r ∧ r ≤ 127 ∧ -128 ≤ c ∧ c ≤ 127) (ho : inB r 1 6 = false ∨ inB c 1 6 = false) (w : World) :
    Calls Tryd.prog 17 #[.agg (mat r c l)] w fun e w' => e = .returned (.bool false) ∧ Below w.heap.size w w' := by
  have e0 := mat_0 r c l
  have e1 := mat_1 r c l
  obtain ⟨b1, b2, b3, b4⟩ := hb
  cases hr : inB r 1 6 with
  | false =>
    go_enter Tryd.func17, Tryd.ntmps17
    go_wp2_with (go_at_call 33; refine (within_any _ _ _ _).mono ?_; rintro e w1 ⟨rfl, ⟨n1, rfl⟩⟩)
    go_ret
    exact ⟨rfl, (by first | exact pw_below_drewN (below_alloc (Below.refl _ _) _) _ | exact below_alloc (Below.refl _ _) _)⟩
  | true =>
    have hc : inB c 1 6 = false := ho.resolve_left (by simp [hr])
    clear ho
    go_enter Tryd.func17, Tryd.ntmps17
    go_wp2_with (go_at_call 33; refine (within_any _ _ _ _).mono ?_; rintro e w1 ⟨rfl, ⟨n1, rfl⟩⟩)
    go_ret
    exact ⟨rfl, (by first | exact pw_below_drewN (below_alloc (Below.refl _ _) _) _ | exact below_alloc (Below.refl _ _) _)⟩
set_option maxHeartbeats 800000 in
set_option maxRecDepth 100000 in
theorem implValid_in (r c : Int) (l : List Int) (hl : l.length = 36) (hr1 : 1 ≤ r) (hr2 : r ≤ 6) (hc1 : 1 ≤ c) (hc2 : c ≤ 6) (w : World) :
    Calls Tryd.prog 17 #[.agg (mat r c l)] w fun e w' => e = .returned (.bool (decide (fb r c l = 36))) ∧ Below w.heap.size w w' := by
  have HL := Aside0.mk hl
  have HG := Aside0.mk (heap_at w (.cells (mat r c l) 33) _ rfl)
  have f1 : inB r 1 6 = true := inB_iff.2 ⟨hr1, hr2⟩
  have f2 : inB c 1 6 = true := inB_iff.2 ⟨hc1, hc2⟩
  have e0 := mat_0 r c l
  have e1 := mat_1 r c l
  have hj := fb_le r c l
  generalize hjj : fb r c l = J at hj ⊢
  have HJ := Aside0.mk hjj
  clear hl hjj
  go_enter Tryd.func17, Tryd.ntmps17
  go_wp2_with (go_at_call 33; refine (within_any _ _ _ _).mono ?_; rintro e w1 ⟨rfl, ⟨n1, rfl⟩⟩)
  go_loopw [17] (fun i w' => ∃ n : Nat, n ≤ 6 ∧ i = .int .i8 n ∧ n * 6 ≤ J ∧ Drawn0 (w.alloc (.cells (mat r c l) 33)) w') (fun i w' => 6 - (intOf i).toNat)
  case atStart => exact ⟨0, by omega, rfl, by omega, ⟨_, rfl⟩⟩
  case round =>
    obtain ⟨n, hn, rfl, hnj, ⟨m1, rfl⟩⟩ := hrel
    have hw8 : IntKind.i8.wrap ((n : Int) + 1) = (n : Int) + 1 := by have : n = 0 ∨ n = 1 ∨ n = 2 ∨ n = 3 ∨ n = 4 ∨ n = 5 ∨ n = 6 := by omega
                                                                     rcases this with rfl | rfl | rfl | rfl | rfl | rfl | rfl <;> decide
    by_cases hlt : n < 6
    · go_wp2_with fail
      go_loopw [20] (fun k w' => ∃ q : Nat, q ≤ 6 ∧ k = .int .i8 q ∧ n * 6 + q ≤ J ∧ Drawn0 (w.alloc (.cells (mat r c l) 33)) w') (fun k w' => 6 - (intOf k).toNat)
      case atStart => exact ⟨0, by omega, rfl, by omega, ⟨_, rfl⟩⟩
      case round =>
        obtain ⟨q, hq, rfl, hqj, ⟨m2, rfl⟩⟩ := hrel
        have hv8 : IntKind.i8.wrap ((q : Int) + 1) = (q : Int) + 1 := by have : q = 0 ∨ q = 1 ∨ q = 2 ∨ q = 3 ∨ q = 4 ∨ q = 5 ∨ q = 6 := by omega
                                                                         rcases this with rfl | rfl | rfl | rfl | rfl | rfl | rfl <;> decide
        by_cases hlq : q < 6
        · have gx := mat_cell HG.out HL.out hlt hlq
          have HX := Aside0.mk (show (n * 6 + q = J → badP r c l n q) ∧ (n * 6 + q < J → ¬ badP r c l n q) from ⟨fun h => fb_bad hlq hlt (by rw [HJ.out]; exact h), fun h => fb_good hlq (by rw [HJ.out]; exact h)⟩)
          unfold badP at HX
          generalize l.getD (n * 6 + q) 0 = x at gx HX
          by_cases a1 : r ≤ (n : Int) <;> by_cases a2 : c ≤ (q : Int) <;> by_cases a3 : x = 0
          all_goals (first | (have b3 : (x != 0) = true := by simpa using a3) | (have b3 : (x != 0) = false := by simpa using a3))
          all_goals
            go_wp2_with fail
            first
              | exact ⟨⟨q + 1, by omega, by go_num, by have := HX.out; omega, ⟨_, rfl⟩⟩, by simp [intOf]; omega⟩
              | (go_ret; have e_ : decide (J = 36) = false := decide_eq_false (by have := HX.out; omega); exact ⟨by rw [e_]; rfl, pw_below_drewN (below_alloc (Below.refl _ _) _) _⟩)
        · obtain rfl : q = 6 := by omega
          go_wp2_with fail
          exact ⟨⟨n + 1, by omega, by go_num, by omega, ⟨_, rfl⟩⟩, by simp [intOf]; omega⟩
    · obtain rfl : n = 6 := by omega
      go_wp2_with fail
      go_ret
      have e_ : decide (J = 36) = true := decide_eq_true (by omega)
      exact ⟨by rw [e_]; rfl, pw_below_drewN (below_alloc (Below.refl _ _) _) _⟩
theorem implValid (r c : Int) (l : List Int) (hl : l.length = 36) (hb : I8 r c) (w : World) :
    Calls Tryd.prog 17 #[.agg (mat r c l)] w fun e w' => e = .returned (.bool (okM r c l)) ∧ Below w.heap.size w w' := by
  rcases in_or_out r c with ⟨h1, h2⟩ | h
  · rw [okM_in h1 h2]
    obtain ⟨a1, a2⟩ := inB_iff.1 h1
    obtain ⟨a3, a4⟩ := inB_iff.1 h2
    exact implValid_in r c l hl a1 a2 a3 a4 w
  · rw [okM_out h]
    exact implValid_out r c l hb h w
end Go.Proofs.YtdgglnjegkmamaaDoor.Mx
