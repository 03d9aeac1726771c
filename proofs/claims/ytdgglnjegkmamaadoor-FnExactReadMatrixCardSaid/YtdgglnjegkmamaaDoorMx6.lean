/- A matrix that came in, read; and a box that is kept over calls. No condition. -/
import Derived.Test.YtdgglnjegkmamaaDoorMx5
import Derived.OpenShut
import Derived.Deep.Strs
import Derived.Lib.SmallJoins
set_option linter.unusedVariables false
set_option linter.unusedSimpArgs false
namespace Go.Proofs.YtdgglnjegkmamaaDoor.Mx
open Go.RowKit Go.Proofs.YtdgglnjegkmamaaDoor.Arr Go.Proofs.YtdgglnjegkmamaaDoorW.PrintWords Go.Proofs.YtdgglnjegkmamaaDoorW.PrintLast Go.ChangeShapes Go.WideShapes Go.ChangeAt Go.Joins

theorem wf_u16 {x : Int} (h : (Lit.int .u16 x).wf = true) : 0 ≤ x ∧ x ≤ 65535 := by simpa [Lit.wf, IntKind.min, IntKind.max, IntKind.signed, IntKind.bits] using h
theorem wf_i8 {x : Int} (h : (Lit.int .i8 x).wf = true) : -128 ≤ x ∧ x ≤ 127 := by simpa [Lit.wf, IntKind.min, IntKind.max, IntKind.signed, IntKind.bits] using h
theorem wf_i64 {x : Int} (h : (Lit.int .i64 x).wf = true) : -9223372036854775808 ≤ x ∧ x ≤ 9223372036854775807 := by simpa [Lit.wf, IntKind.min, IntKind.max, IntKind.signed, IntKind.bits] using h
theorem ints_of {k : IntKind} : ∀ (cs : List Value), (∀ j, j < cs.length → ∃ z, cs[j]? = some (.int k z) ∧ (Lit.int k z).wf = true) → ∃ zs : List Int, cs = zs.map (Value.int k) ∧ ∀ z ∈ zs, (Lit.int k z).wf = true
  | [], _ => ⟨[], rfl, by simp⟩
  | v :: vs, h => by
    obtain ⟨z, hz, hw⟩ := h 0 (by simp)
    obtain ⟨zs, h1, h2⟩ := ints_of vs (fun j hj => by have := h (j + 1) (by simpa using hj); simpa using this)
    refine ⟨z :: zs, ?_, ?_⟩
    · simp only [List.getElem?_cons_zero, Option.some.injEq] at hz
      rw [hz, h1]
      rfl
    · intro y hy
      rcases List.mem_cons.1 hy with rfl | hy
      · exact hw
      · exact h2 y hy
set_option maxRecDepth 100000 in
theorem mat_read {H : Type} {enc : TypeId × Value → H} {w : World} {base : Nat} {spare : Nat → Bool} {held : Bool} {r : Reach} {b0 : Nat} {v : Value} {d : DataW H} {p : List MemPlace}
    (hv : Value.okWide Tryd.prog w r b0 27 v) (h : DataW.Trod enc Tryd.prog w base spare held 27 v d p) :
    ∃ (a c : Int) (l : List Int), v = .agg (mat a c l) ∧ l.length = 36 ∧ I8 a c ∧ (∀ x ∈ l, 0 ≤ x ∧ x ≤ 65535) := by
  obtain ⟨cs, rfl, hsz⟩ := okWide_struct Tryd.underlying27 hv
  have h38 : cs.toList.length = 38 := by rw [Array.length_toList, hsz]; kernel_rfl
  obtain ⟨fuel, hf⟩ := h
  obtain ⟨y0, y1, y2, n, hx, _, h0, h1, h2⟩ := Go.Deep.trod_struct3 Tryd.underlying27 hf
  have c22 : Tryd.prog.cellsOf 22 = 1 := by kernel_rfl
  have c23 : Tryd.prog.cellsOf 23 = 1 := by kernel_rfl
  have c24 : Tryd.prog.cellsOf 24 = 6 := by kernel_rfl
  have c25 : Tryd.prog.cellsOf 25 = 36 := by kernel_rfl
  change DataW.trod enc Tryd.prog w base spare held n 22 ((cs.toList.drop 0).take (Tryd.prog.cellsOf 22)) = some y0 at h0
  change DataW.trod enc Tryd.prog w base spare held n 22 ((cs.toList.drop 1).take (Tryd.prog.cellsOf 22)) = some y1 at h1
  change DataW.trod enc Tryd.prog w base spare held n 25 ((cs.toList.drop 2).take (Tryd.prog.cellsOf 25)) = some y2 at h2
  rw [c22] at h0 h1
  rw [c25] at h2
  obtain ⟨a, e0, _, wa⟩ := DataW.trod_int Tryd.underlying22 h0
  obtain ⟨c, e1, _, wc⟩ := DataW.trod_int Tryd.underlying22 h1
  obtain ⟨xs, m, _, _, _, hxl, hrow⟩ := DataW.trod_array Tryd.underlying25 h2
  have hall : ∀ j, j < (cs.toList.drop 2).length → ∃ z, (cs.toList.drop 2)[j]? = some (.int .u16 z) ∧ (Lit.int .u16 z).wf = true := by
    intro j hj
    rw [List.length_drop, h38] at hj
    have hr := hrow (j / 6) (by omega)
    rw [c24, List.getElem?_eq_getElem (by omega)] at hr
    obtain ⟨ys, m2, _, _, _, hyl, hcell⟩ := DataW.trod_array Tryd.underlying24 hr
    have hc := hcell (j % 6) (by omega)
    rw [c23, List.getElem?_eq_getElem (by omega)] at hc
    obtain ⟨z, ez, _, wz⟩ := DataW.trod_int Tryd.underlying23 hc
    refine ⟨z, ?_, wz⟩
    have e := congrArg (fun q => q[0]?) ez
    simp only [List.getElem?_take, List.getElem?_drop, List.getElem?_cons_zero] at e
    rw [if_pos (by omega), if_pos (by omega), if_pos (by omega)] at e
    rw [List.getElem?_drop, ← e]
    congr 1
    omega
  obtain ⟨l, hl, hw⟩ := ints_of _ hall
  refine ⟨a, c, l, ?_, ?_, ?_, fun x hx => wf_u16 (hw x hx)⟩
  · congr 1
    apply Array.ext'
    have q0 : cs.toList[0]? = some (.int .i8 a) := by
      have e := congrArg (fun q => q[0]?) e0
      simpa using e
    have q1 : cs.toList[1]? = some (.int .i8 c) := by
      have e := congrArg (fun q => q[0]?) e1
      simpa using e
    match hcs : cs.toList, q0, q1, hl with
    | x :: y :: t, q0, q1, hl =>
      simp only [List.getElem?_cons_zero, Option.some.injEq] at q0
      simp only [List.getElem?_cons_succ, List.getElem?_cons_zero, Option.some.injEq] at q1
      have hl' : t = l.map (Value.int .u16) := hl
      rw [q0, q1, hl']
      rfl
  · have := congrArg List.length hl
    rw [List.length_drop, h38, List.length_map] at this
    omega
  · have ba := wf_i8 wa
    have bc := wf_i8 wc
    exact ⟨ba.1, ba.2, bc.1, bc.2⟩
/-- A box that is kept over calls. -/
structure Bx (w w' : World) (o : Obj) : Prop where
  hb : Below w.heap.size w w'
  hg : w'.heap[w.heap.size]? = some o
theorem Bx.start (w : World) (o : Obj) : Bx w (w.alloc o) o := ⟨below_alloc (Below.refl _ _) _, heap_at _ _ _ rfl⟩
theorem Bx.size {w w' o} (h : Bx w w' o) : w.heap.size < w'.heap.size := (Array.getElem?_eq_some_iff.1 h.hg).1
theorem Bx.step {w w' w2 o} (h : Bx w w' o) (h2 : Below w'.heap.size w' w2) : Bx w w2 o := ⟨h.hb.trans (h2.mono (Nat.le_of_lt h.size)), by rw [h2.block _ h.size]; exact h.hg⟩
theorem Bx.drewN {w w' o} (h : Bx w w' o) (n : Nat) : Bx w (w'.drewN n) o := ⟨pw_below_drewN h.hb n, h.hg⟩
theorem Bx.alloc {w w' o} (h : Bx w w' o) (o2 : Obj) : Bx w (w'.alloc o2) o := h.step (below_alloc (Below.refl _ _) _)
end Go.Proofs.YtdgglnjegkmamaaDoor.Mx
