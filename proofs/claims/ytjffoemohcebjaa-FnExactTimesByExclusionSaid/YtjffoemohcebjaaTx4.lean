/- FnExactTimesByExclusion: both programs answer alike. -/
import Derived.Test.YtjffoemohcebjaaTx3
set_option linter.unusedVariables false
set_option linter.unusedSimpArgs false
namespace Go.Proofs.Ytjffoemohcebjaa.Tx
open Go.RowKit Go.Proofs.Ytjffoemohcebjaa.Lib Go.Proofs.Ytjffoemohcebjaa.Arr Go.Proofs.Ytjffoemohcebjaa.Mx Go.Proofs.YtjffoemohcebjaaW.PrintWords Go.Proofs.YtjffoemohcebjaaW.PrintLast

set_option maxHeartbeats 800000 in
set_option maxRecDepth 100000 in
theorem specTimes_out (a b : Int) (h : 31 < a ∨ 31 < b) (w : World) :
    Calls Try.prog 29 #[.int .u16 a, .int .u16 b] w fun e w' => e = .returned (.tuple #[.int .u16 0, .int .i64 2]) ∧ Below w.heap.size w w' := by
  by_cases hA : 31 < a
  · clear h
    go_enter Try.func29, Try.ntmps29
    go_wp2_with fail
    go_ret2
    exact ⟨rfl, Below.refl _ _⟩
  · have hB : 31 < b := by omega
    clear h
    go_enter Try.func29, Try.ntmps29
    go_wp2_with fail
    go_ret2
    exact ⟨rfl, Below.refl _ _⟩
set_option maxHeartbeats 800000 in
set_option maxRecDepth 100000 in
theorem implTimes_out (a b : Int) (h : 31 < a ∨ 31 < b) (w : World) :
    Calls Try.prog 30 #[.int .u16 a, .int .u16 b] w fun e w' => e = .returned (.tuple #[.int .u16 0, .int .i64 2]) ∧ Below w.heap.size w w' := by
  by_cases hA : 31 < a
  · clear h
    go_enter Try.func30, Try.ntmps30
    go_wp2_with fail
    go_ret2
    exact ⟨rfl, Below.refl _ _⟩
  · have hB : 31 < b := by omega
    clear h
    go_enter Try.func30, Try.ntmps30
    go_wp2_with fail
    go_ret2
    exact ⟨rfl, Below.refl _ _⟩
theorem wf_wrap {a : Int} (h : (Lit.int .u16 a).wf = true) : IntKind.u16.wrap a = a := by
  simp only [Lit.wf, Bool.and_eq_true, decide_eq_true_eq] at h
  have h1 : (0 : Int) ≤ a := h.1
  have h2 : a ≤ (65535 : Int) := h.2
  rw [IntKind.wrap_u16]
  omega
theorem both (a b : Int) (ha : IntKind.u16.wrap a = a) (hb : IntKind.u16.wrap b = b) : ∃ x q : Int,
    (∀ w, Calls Try.prog 29 #[.int .u16 a, .int .u16 b] w fun e w' => e = .returned (.tuple #[.int .u16 x, .int .i64 q]) ∧ Below w.heap.size w w') ∧
    (∀ w, Calls Try.prog 30 #[.int .u16 a, .int .u16 b] w fun e w' => e = .returned (.tuple #[.int .u16 x, .int .i64 q]) ∧ Below w.heap.size w w') := by
  rw [IntKind.wrap_u16] at ha hb
  by_cases h : 31 < a ∨ 31 < b
  · exact ⟨0, 2, specTimes_out a b h, implTimes_out a b h⟩
  · obtain ⟨a', rfl⟩ := Int.eq_ofNat_of_zero_le (show 0 ≤ a by omega)
    obtain ⟨b', rfl⟩ := Int.eq_ofNat_of_zero_le (show 0 ≤ b by omega)
    exact ⟨_, _, specTimes_in a' b' (by omega) (by omega), implTimes_in a' b' (by omega) (by omega)⟩
end Go.Proofs.Ytjffoemohcebjaa.Tx
namespace Go.Proofs.Ytjffoemohcebjaa.Mx
open Go.RowKit Go.Proofs.Ytjffoemohcebjaa.Lib Go.Proofs.Ytjffoemohcebjaa.Arr Go.Proofs.YtjffoemohcebjaaW.PrintWords Go.Proofs.YtjffoemohcebjaaW.PrintLast
set_option maxHeartbeats 800000 in
set_option maxRecDepth 100000 in
theorem law_TimesByExclusion (a : Int) (ha : (Lit.int .u16 a).wf = true) (b : Int) (hb : (Lit.int .u16 b).wf = true) (w : World) :
    Calls Try.prog 10 #[.int .u16 a, .int .u16 b] w fun e w' => e = .returned (.bool true) ∧ Below w.heap.size w w' := by
  obtain ⟨x, q, h1, h2⟩ := Tx.both a b (Tx.wf_wrap ha) (Tx.wf_wrap hb)
  have H1 := Aside0.mk h1
  have H2 := Aside0.mk h2
  clear h1 h2
  have HB := Aside0.mk (Below.refl w.heap.size w)
  go_enter Try.func10, Try.ntmps10
  go_wp2_with (first
    | (go_at_call 29; refine (H1.out _).mono ?_; rintro e w2 ⟨rfl, hb2⟩; replace HB := Aside0.mk (below_step HB.out hb2); clear hb2)
    | (go_at_call 30; refine (H2.out _).mono ?_; rintro e w2 ⟨rfl, hb2⟩; replace HB := Aside0.mk (below_step HB.out hb2); clear hb2))
  go_ret
  exact ⟨rfl, HB.out⟩
end Go.Proofs.Ytjffoemohcebjaa.Mx
