/- SwapRows, of both programs: the code that rows have. No condition but the lengths and the kinds' bounds. -/
import Derived.Test.YtjffoemohcebjaaMx13
set_option linter.unusedVariables false
set_option linter.unusedSimpArgs false
namespace Go.Proofs.Ytjffoemohcebjaa.Mx
open Go.RowKit Go.Proofs.Ytjffoemohcebjaa.Arr Go.Proofs.YtjffoemohcebjaaW.PrintWords Go.Proofs.YtjffoemohcebjaaW.PrintLast

def rowIn (r a b : Int) : Bool := inB a 0 (r - 1) && inB b 0 (r - 1)
def rowE (r c : Int) (l : List Int) (a b : Int) : Int := if okM r c l = true then (if rowIn r a b = true then 0 else 2) else 1
theorem quiet_any {P : Program} {f : FuncId} {args : Array Value} {w : World} {n : Nat} {v : Value} (h : Calls P f args (w.drewN n) fun e w' => e = .returned v ∧ Drawn0 (w.drewN n) w') : Calls P f args (w.drewN n) fun e w'' => e = .returned v ∧ ∃ m, w'' = w.drewN m :=
  Calls.quiet_of (h.mono fun _ _ ⟨he, ⟨hm⟩⟩ => ⟨he, hm⟩)
set_option maxHeartbeats 800000 in
set_option maxRecDepth 100000 in
theorem l02Row (b : Nat) (t : TypeId) (r c : Int) (l : List Int) (hl : l.length = 36) (hb : I8 r c) (x y : Int) (w : World) (hg : w.heap[b]? = some (.cells (mat r c l) t)) :
    Calls Try.prog 40 #[.pointer (some ⟨b, 0, none⟩), .int .i64 x, .int .i64 y] w fun e w' => e = .returned (.int .i64 (rowE r c l x y)) ∧ Drawn0 w w' := by
  have HL := Aside0.mk hl
  have HI := Aside0.mk hb
  have HG := Aside0.mk hg
  have g0 := mat_cell0 hg
  unfold rowE rowIn
  cases hv : okM r c l with
  | false =>
    have HV := Aside0.mk hv
    clear hv hl hb hg
    go_enter Try.func40, Try.ntmps40
    go_wp2_with (go_at_call 31; refine (l02Ok_any b t r c l HL.out HI.out _ HG.out).mono ?_; rw [HV.out]; rintro e w1 ⟨rfl, ⟨n1, rfl⟩⟩)
    go_ret
    exact ⟨rfl, ⟨_, rfl⟩⟩
  | true =>
    obtain ⟨b1, b2, _, _⟩ := okM_bounds hv
    have HV := Aside0.mk hv
    clear hv hl hb hg
    cases hx : inB x 0 (r - 1) with
    | false =>
      simp only [if_true, Bool.false_and, Bool.false_eq_true, if_false]
      go_enter Try.func40, Try.ntmps40
      go_wp2_with (first
        | (go_at_call 31; refine (l02Ok_any b t r c l HL.out HI.out _ HG.out).mono ?_; rw [HV.out]; rintro e w1 ⟨rfl, ⟨n1, rfl⟩⟩)
        | (go_at_call 34; refine (l00In_any _ _ _ _).mono ?_; rintro e w1 ⟨rfl, ⟨n2, rfl⟩⟩))
      go_ret
      exact ⟨rfl, ⟨_, rfl⟩⟩
    | true =>
      cases hy : inB y 0 (r - 1) with
      | false =>
        simp only [if_true, Bool.and_false, Bool.false_eq_true, if_false]
        go_enter Try.func40, Try.ntmps40
        go_wp2_with (first
          | (go_at_call 31; refine (l02Ok_any b t r c l HL.out HI.out _ HG.out).mono ?_; rw [HV.out]; rintro e w1 ⟨rfl, ⟨n1, rfl⟩⟩)
          | (go_at_call 34; refine (l00In_any _ _ _ _).mono ?_; rintro e w1 ⟨rfl, ⟨n2, rfl⟩⟩))
        go_ret
        exact ⟨rfl, ⟨_, rfl⟩⟩
      | true =>
        simp only [if_true, Bool.and_true]
        go_enter Try.func40, Try.ntmps40
        go_wp2_with (first
          | (go_at_call 31; refine (l02Ok_any b t r c l HL.out HI.out _ HG.out).mono ?_; rw [HV.out]; rintro e w1 ⟨rfl, ⟨n1, rfl⟩⟩)
          | (go_at_call 34; refine (l00In_any _ _ _ _).mono ?_; rintro e w1 ⟨rfl, ⟨n2, rfl⟩⟩))
        go_ret
        exact ⟨rfl, ⟨_, rfl⟩⟩
set_option maxHeartbeats 800000 in
set_option maxRecDepth 100000 in
theorem rowCode (r c : Int) (l : List Int) (hl : l.length = 36) (hb : I8 r c) (x y : Int) (w : World) :
    Calls Try.prog 42 #[.agg (mat r c l), .int .i64 x, .int .i64 y] w fun e w' => e = .returned (.int .i64 (rowE r c l x y)) ∧ Below w.heap.size w w' := by
  have HL := Aside0.mk hl
  have HI := Aside0.mk hb
  have HX := Aside0.mk (Bx.start w (.cells (mat r c l) 33))
  have HS := Aside0.mk (mat_size r c l hl)
  unfold rowE rowIn
  cases hv : okM r c l with
  | false =>
    have HV := Aside0.mk hv
    clear hv hl hb
    go_enter Try.func42, Try.ntmps42
    go_wp2_with (first
      | (refine wpList_load_row rfl 33 _ rfl w.heap.size rfl 33 _ (0, 0) _ HX.out.hg Try.underlying33 rfl (size33.trans (congrArg some HS.out.symm)) ?_)
      | (go_at_call 13; refine (implValid r c l HL.out HI.out _).mono ?_; rw [HV.out]; rintro e w2 ⟨rfl, hb2⟩; replace HX := Aside0.mk (HX.out.step hb2); clear hb2))
    go_ret
    exact ⟨rfl, HX.out.hb⟩
  | true =>
    obtain ⟨b1, b2, _, _⟩ := okM_bounds hv
    have HV := Aside0.mk hv
    clear hv hl hb
    cases hx : inB x 0 (r - 1) <;> cases hy : inB y 0 (r - 1)
    all_goals
      simp only [if_true, Bool.and_false, Bool.and_true, Bool.false_and, Bool.false_eq_true, if_false]
      go_enter Try.func42, Try.ntmps42
      go_wp2_with (first
        | (refine wpList_load_row rfl 33 _ rfl w.heap.size rfl 33 _ (0, 0) _ HX.out.hg Try.underlying33 rfl (size33.trans (congrArg some HS.out.symm)) ?_)
        | (go_at_call 13; refine (implValid r c l HL.out HI.out _).mono ?_; rw [HV.out]; rintro e w2 ⟨rfl, hb2⟩; replace HX := Aside0.mk (HX.out.step hb2); have g0 := mat_cell0 HX.out.hg; clear hb2)
        | (go_at_call 33; refine (within_any _ _ _ _).mono ?_; rintro e w1 ⟨rfl, ⟨n2, rfl⟩⟩; replace HX := Aside0.mk (HX.out.drewN n2)))
      go_ret
      exact ⟨rfl, (by first | exact HX.out.hb | (have := HX.out.hb; simpa [World.drewN_drewN] using this))⟩
end Go.Proofs.Ytjffoemohcebjaa.Mx
