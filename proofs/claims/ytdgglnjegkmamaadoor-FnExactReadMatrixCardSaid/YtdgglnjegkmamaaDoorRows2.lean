/- A slice of slices of whole numbers that came in, told as the print tells what is read. No program is in sight. -/
import Derived.Test.YtdgglnjegkmamaaDoorWWords
import Derived.Deep.Matrix
import Derived.ProofKit
set_option linter.unusedVariables false
namespace Go.Proofs.YtdgglnjegkmamaaDoor.Lib
open Go.RowKit Go.Proofs.YtdgglnjegkmamaaDoorW.PrintWords Go.Deep

theorem rows_read {H : Type} {enc : TypeId × Value → H} {P : Program} {w : World} {base : Nat} {held : Bool} {t e q : TypeId} {k : IntKind} {a : Option Addr} {len cap : Nat} {d : DataW H} {p : List MemPlace} (s : Nat)
    (ht : P.underlying t = some (.slice e)) (he : P.underlying e = some (.slice q)) (hq : P.underlying q = some (.int k)) (ce : P.cellsOf e = 1) (cq : P.cellsOf q = 1)
    (h : DataW.Trod enc P w base (fun _ => true) held t (.slice a len cap) d p) :
    ∃ zs : List (List Int), zs.length = len ∧ zs.length ≤ cap ∧ zs.length ≤ maxLen ∧ Kd.C (Kd.slice s (Kd.int k)) w a zs.length zs ∧ ∀ mv ∈ zs, mv.length ≤ maxLen ∧ ∀ x ∈ mv, (Lit.int k x).wf = true := by
  obtain ⟨fuel, hf⟩ := h
  rcases open_int_rows ht he hq ce cq hf with ⟨hcs, _⟩ | ⟨x, l, c, A, L, C, Z, hcs, _, hl, hm, _, hrows⟩
  · simp [Value.cells] at hcs
    obtain ⟨rfl, rfl, rfl⟩ := hcs
    exact ⟨[], rfl, by simp, by simp, ⟨rfl, by simp, fun hn => absurd hn (by simp)⟩, by simp⟩
  · simp [Value.cells] at hcs
    obtain ⟨rfl, rfl, rfl⟩ := hcs
    have hlen : ((List.range len).map fun r => (Z r).take (L r)).length = len := by simp
    refine ⟨(List.range len).map fun r => (Z r).take (L r), hlen, by omega, by omega, ?_, ?_⟩
    · refine ⟨rfl, by rw [hlen]; unfold maxLen at hm; omega, fun hn => ⟨x, rfl, fun j p hj => ?_⟩⟩
      obtain ⟨hj1, hj2⟩ := List.getElem?_eq_some_iff.1 hj
      have hjl : j < len := by omega
      obtain ⟨r1, r2, r3, r4, r5, r6, r7⟩ := hrows j (by omega)
      simp only [List.getElem_map, List.getElem_range] at hj2
      subst hj2
      have hpl : ((Z j).take (L j)).length = L j := by rw [List.length_take]; omega
      refine ⟨[.slice (A j) (L j) (C j)], rfl, ⟨A j, C j, by rw [hpl], by rw [hpl]; exact r2, ?_⟩, fun i u hu => ?_⟩
      · refine Kd.C_of_reads (d := (0 : Int)) (h1 := fun _ => rfl) ⟨rfl, by rw [hpl]; unfold maxLen at r3; omega, fun hn2 => ?_⟩
        rw [hpl] at hn2 ⊢
        cases hA : A j with
        | none => have := r6 hA; omega
        | some a' =>
          refine ⟨a', rfl, fun i hi => ?_⟩
          have := (r7 a' hA).2 i (by omega)
          rw [this]
          simp [List.getD_eq_getElem?_getD, hi]
      · cases i with
        | zero =>
          simp at hu
          subst hu
          have : j * (Kd.slice s (Kd.int k)).sz + 0 = j := by show j * 1 + 0 = j; omega
          rw [this]
          exact r1
        | succ i => simp at hu
    · intro mv hmv
      obtain ⟨r, hr, rfl⟩ := List.mem_map.1 hmv
      have hr' := List.mem_range.1 hr
      obtain ⟨r1, r2, r3, r4, r5, r6, r7⟩ := hrows r (by omega)
      exact ⟨by rw [List.length_take]; omega, fun y hy => r5 y (List.mem_of_mem_take hy)⟩
theorem ints_read {H : Type} {enc : TypeId × Value → H} {P : Program} {w : World} {base : Nat} {held : Bool} {t e : TypeId} {k : IntKind} {a : Option Addr} {len cap : Nat} {d : DataW H} {p : List MemPlace}
    (ht : P.underlying t = some (.slice e)) (he : P.underlying e = some (.int k)) (ce : P.cellsOf e = 1)
    (h : DataW.Trod enc P w base (fun _ => true) held t (.slice a len cap) d p) :
    ∃ zs : List Int, zs.length = len ∧ zs.length ≤ cap ∧ zs.length ≤ maxLen ∧ Kd.C (Kd.int k) w a zs.length zs ∧ ∀ x ∈ zs, (Lit.int k x).wf = true := by
  obtain ⟨fuel, hf⟩ := h
  rcases Go.ChangeShapes.open_ints ht he ce hf with ⟨hcs, _⟩ | ⟨x, l, c, zs, hcs, _, hl, hm, hz, _, hcell, hwz⟩
  · simp [Value.cells] at hcs
    obtain ⟨rfl, rfl, rfl⟩ := hcs
    exact ⟨[], rfl, by simp, by simp, ⟨rfl, by simp, fun hn => absurd hn (by simp)⟩, by simp⟩
  · simp [Value.cells] at hcs
    obtain ⟨rfl, rfl, rfl⟩ := hcs
    have hz' : zs.length = cap := by simpa using hz
    have hpl : (zs.take len).length = len := by rw [List.length_take]; omega
    refine ⟨zs.take len, hpl, by omega, by omega, ?_, fun y hy => hwz y (List.mem_of_mem_take hy)⟩
    refine Kd.C_of_reads (d := (0 : Int)) (h1 := fun _ => rfl) ⟨rfl, by rw [hpl]; unfold maxLen at hm; omega, fun hn => ⟨x, rfl, fun i hi => ?_⟩⟩
    rw [hpl] at hi
    rw [hcell i (by omega)]
    simp [List.getD_eq_getElem?_getD, hi]
end Go.Proofs.YtdgglnjegkmamaaDoor.Lib
