/- slices.SortFunc over pairs, by their first and then by their second number: the row of the call's own holds the sorted list. -/
import Derived.Test.YteinllalhiflcaaSf
import Derived.Test.YteinllalhiflcaaSfW
import Derived.Test.YteinllalhiflcaaShSf
set_option linter.unusedVariables false
set_option linter.unusedSimpArgs false
namespace Go.Proofs.Yteinllalhiflcaa.Sf
open Go.RowKit Go.Sort Go.Lib Go.Shelf Go.Proofs.Yteinllalhiflcaa.Arr Go.Proofs.Yteinllalhiflcaa.Pairs Go.Proofs.YteinllalhiflcaaW.PrintWords Go.Proofs.YteinllalhiflcaaW.PrintLast
theorem cmpZ_neg (x y : Int) : cmpZ x y < 0 ↔ x < y := by
  unfold cmpZ
  by_cases h : x < y
  · simp [h]
  · by_cases h2 : y < x <;> simp [h, h2]
theorem cmpZ_zero (x y : Int) : cmpZ x y = 0 ↔ x = y := by
  unfold cmpZ
  by_cases h : x < y
  · simp [h]; omega
  · by_cases h2 : y < x
    · simp [h, h2]; omega
    · simp [h, h2]; omega
theorem cf_lt (x y : Int × Int) : ltOf cf x y = decide (x.1 < y.1 ∨ (x.1 = y.1 ∧ x.2 < y.2)) := by
  unfold ltOf cf
  by_cases h : cmpZ x.1 y.1 = 0
  · have e := (cmpZ_zero _ _).1 h
    rw [if_pos h]
    apply decide_eq_decide.2
    rw [cmpZ_neg]
    omega
  · have e : ¬ x.1 = y.1 := fun q => h ((cmpZ_zero _ _).2 q)
    rw [if_neg h]
    apply decide_eq_decide.2
    rw [cmpZ_neg]
    omega
theorem swo : SWO (ltOf cf) where
  irrefl x := by rw [cf_lt]; simp
  trans x y z h1 h2 := by rw [cf_lt] at *; simp at *; omega
  ntrans x y z h1 h2 := by rw [cf_lt] at *; simp at *; omega
theorem tot (x y : Int × Int) (h1 : ltOf cf x y = false) (h2 : ltOf cf y x = false) : x = y := by
  rw [cf_lt] at h1 h2
  simp at h1 h2
  exact Prod.ext (by omega) (by omega)
def sorted (xs : List (Int × Int)) : List (Int × Int) := xs.mergeSort fun x y => !(ltOf cf) y x
theorem sorted_len (xs : List (Int × Int)) : (sorted xs).length = xs.length := by unfold sorted; exact List.length_mergeSort _
theorem lays (g off size : Nat) (w : World) : CmpLays Try.prog 96 #[] e2 2 cf g off size w := fun _ _ _ _ x y => clo x y _
/-- slices.SortFunc with octalMoves' comparison. -/
theorem sort_calls (xs : List (Int × Int)) (hx : xs.length < 4611686018427387904) (w0 w : World) (ok : Nat → Prop) (v : Value) (hR : K2.R 46 w w0.heap.size ok v xs) (hb : Below w0.heap.size w0 w) :
    Calls Try.prog 95 #[v, .func (.func 96) #[] #[]] w fun e w' => e = .returned (.tuple #[]) ∧ K2.R 46 w' w0.heap.size (fun k => ok k ∨ w.heap.size ≤ k) v (sorted xs) ∧ Below w0.heap.size w0 w' ∧ Kept w w' ok := by
  rcases Nat.eq_zero_or_pos xs.length with h0 | h0
  · obtain rfl := List.eq_nil_of_length_eq_zero h0
    obtain ⟨A, c, rfl⟩ := Kd.R_slice hR
    have hn := AnyF.slices_SortFunc_none Try.laysSortP A c (.func (.func 96) #[] #[]) w
    change Calls Try.prog 95 _ _ _ at hn
    refine hn.mono ?_
    rintro e w' ⟨rfl, rfl⟩
    refine ⟨rfl, ?_, hb, Kept.refl _ _⟩
    have : sorted [] = [] := by simp [sorted]
    rw [this]
    exact Kd.R_mono hR (fun _ hk => .inl hk)
  · obtain ⟨g, cap, rfl, hg, hH, hW⟩ := sort_R hR h0 hb
    have eg : ∀ args w, (callFunc 96 args).run Try.prog w = .ok (.enter 96 args) w := enters_of Try.func96 (by kernel_rfl) rfl
    have hs := AnyQ.slices_SortFunc_total Try.laysSortP 2 Try.isAgg46 Try.sizeOf46 e2 (fun _ => rfl) (fun x v hv => by simp [e2] at hv; rcases hv with rfl | rfl <;> rfl) cf swo 96 #[] g 0 cap xs.toArray w eg (lays g 0 xs.toArray.size w) hH hg (by simpa using hx) tot
    change Calls Try.prog 95 #[.slice (some ⟨g, 0, none⟩) xs.length cap, _] _ _ at hs
    refine hs.mono ?_
    rintro e w' ⟨rfl, n, os, rfl⟩
    obtain ⟨k1, k2, k3⟩ := hW (sorted xs) (sorted_len xs) n os
    have es : (xs.toArray.toList.mergeSort fun x y => !(ltOf cf) y x) = sorted xs := rfl
    rw [es]
    exact ⟨rfl, Kd.R_mono k1 (fun _ hk => .inl hk), k2, k3⟩
end Go.Proofs.Yteinllalhiflcaa.Sf
