/- MatrixText, of both programs: the rows' texts with what stands between them. No condition but the lengths, the kinds' bounds and what the rows' texts are. -/
import Derived.Test.YtdgglnjegkmamaaDoorMx6
set_option linter.unusedVariables false
set_option linter.unusedSimpArgs false
namespace Go.Proofs.YtdgglnjegkmamaaDoor.Mx
open Go.RowKit Go.Proofs.YtdgglnjegkmamaaDoor.Arr Go.Proofs.YtdgglnjegkmamaaDoorW.PrintWords Go.Proofs.YtdgglnjegkmamaaDoorW.PrintLast Go.Proofs.YtdgglnjegkmamaaDoorW.PrintMore Go.Proofs.YtdgglnjegkmamaaDoor.QFnExactMatrixText

/-- A row's cells up to the columns. -/
def cut (l : List Int) (c i : Nat) : List Int := (row l i).take c
theorem cut_len (l : List Int) (hl : l.length = 36) (c i : Nat) (hc : c ≤ 6) (hi : i < 6) : (cut l c i).length = c := by
  unfold cut
  rw [List.length_take, row_len l hl i hi]
  omega
theorem cut_get (l : List Int) (c i j : Nat) (p : Int) (h : (cut l c i)[j]? = some p) : l[i * 6 + j]? = some p := by
  unfold cut row at h
  rw [List.getElem?_take] at h
  split at h
  · rw [List.getElem?_take] at h
    split at h
    · rw [List.getElem?_drop] at h
      rw [Nat.mul_comm]
      exact h
    · cases h
  · cases h
theorem cut_C {w : World} {b : Nat} {t : TypeId} {fr : Nat × Nat} {r c' : Int} {l : List Int} (hg : w.heap[b]? = some (.cells (mat r c' l) t fr)) (c i : Nat) (hz : (cut l c i).length ≤ 6) :
    Kd.C (Kd.int .u16) w (some ⟨b, 2 + i * 6, none⟩) (cut l c i).length (cut l c i) := by
  refine ⟨rfl, by omega, fun _ => ⟨_, rfl, fun j p hj => ⟨[.int .u16 p], rfl, rfl, fun q u hu => ?_⟩⟩⟩
  cases q with
  | succ q => simp at hu
  | zero =>
    obtain rfl : Value.int .u16 p = u := by simpa using hu
    rw [Arr.add_at]
    have h2 := cut_get l c i j p hj
    rw [cell_of_row _ _ _ _ _ _ hg]
    show (mat r c' l)[2 + i * 6 + (j * 1 + 0)]? = _
    rw [show 2 + i * 6 + (j * 1 + 0) = 2 + (i * 6 + j) by omega, mat_2, h2]
    rfl
/-- The rows' texts, one behind the other. -/
def joinT (T : Nat → ByteArray) : Nat → ByteArray
  | 0 => ⟨#[]⟩
  | n + 1 => (if n > 0 then joinT T n ++ ⟨#[59]⟩ else joinT T n) ++ T n
theorem joinT_size (T : Nat → ByteArray) (hz : ∀ i, i < 6 → (T i).size ≤ 400000) : ∀ n, n ≤ 6 → (joinT T n).size ≤ 400001 * n := by
  intro n
  induction n with
  | zero => intro _; exact Nat.le_refl 0
  | succ n ih =>
    intro hn
    have h1 := ih (by omega)
    have h2 := hz n (by omega)
    unfold joinT
    split
    · rw [ByteArray.size_append, ByteArray.size_append]
      have : (⟨#[59]⟩ : ByteArray).size = 1 := rfl
      omega
    · rw [ByteArray.size_append]
      omega
theorem listT (k : Nat) (A : Option Addr) (c0 n : Nat) (l0 : List Int) (r : ByteArray) (w : World) (hn : l0.length = n) (hc : l0.length ≤ c0) (hr : Kd.C (Kd.int .u16) w A l0.length l0) (h : spec_l01ListText.f k l0 = some r) :
    Calls Tryd.prog 31 #[.slice A n c0] w fun e w' => e = .returned (.string r) ∧ Below w.heap.size w w' := by
  subst hn
  exact spec_l01ListText.calls k A c0 l0 r w hr hc h
set_option maxHeartbeats 1600000 in
set_option maxRecDepth 100000 in
theorem specText (k b R C : Nat) (t : TypeId) (l : List Int) (T : Nat → ByteArray) (hl : l.length = 36) (hR : 1 ≤ R ∧ R ≤ 6) (hC : 1 ≤ C ∧ C ≤ 6) (hT : ∀ i, i < R → spec_l01ListText.f k (cut l C i) = some (T i)) (hz : ∀ i, i < 6 → (T i).size ≤ 400000) (w : World) (hg : w.heap[b]? = some (.cells (mat R C l) t)) :
    Calls Tryd.prog 15 #[.pointer (some ⟨b, 0, none⟩)] w fun e w' => e = .returned (.string (joinT T R)) ∧ Below w.heap.size w w' := by
  have HT := Aside0.mk hT
  have HZ := Aside0.mk (joinT_size T hz)
  have HZ1 := Aside0.mk hz
  have HG := Aside0.mk hg
  have HL := Aside0.mk hl
  have HR := Aside0.mk hR
  have HC := Aside0.mk hC
  have HB := Aside0.mk (Below.refl w.heap.size w)
  clear hT hz hg hl hR hC
  go_enter Tryd.func15, Tryd.ntmps15
  go_wp2_with fail
  go_loopw [3, 4] (fun v3 v4 w' => ∃ n : Nat, n ≤ R ∧ v3 = .string (joinT T n) ∧ v4 = .int .i64 n ∧ Aside0 (Below w.heap.size w w')) (fun v3 v4 w' => R - (intOf v4).toNat)
  case atStart => exact ⟨0, Nat.zero_le _, rfl, rfl, HB⟩
  case round =>
    clear HB
    obtain ⟨n, hn, rfl, rfl, HB⟩ := hrel
    have HG2 := Aside0.mk ((HB.out.block b (lt_of_block HG.out)).trans HG.out)
    have c0 := mat_cell0 HG2.out
    have c1 := mat_cell1 HG2.out
    have hC2 : (0 : Int) ≤ (C : Int) ∧ (C : Int) ≤ 6 := by have := HC.out; omega
    have hR2 : (R : Int) ≤ 6 := by have := HR.out; omega
    by_cases hlt : n < R
    · have hn6 : (n : Int) < 6 := by omega
      have hlen := cut_len l HL.out C n (by omega) (by omega)
      have LE := Aside0.mk (fun W (hb : Below wr.heap.size wr W) => listT k (some ⟨b, 2 + n * 6, none⟩) 6 C (cut l C n) (T n) W hlen (by omega) (Kd.C_below (cut_C HG2.out C n (by omega)) hb) (HT.out n hlt))
      have s1 := HZ.out n (by omega)
      have s2 := HZ1.out n (by omega)
      have f1 : (9223372036854775807 < (joinT T n).size + 1) = False := eq_false (by omega)
      have f2 : (9223372036854775807 < (joinT T n).size + 1 + (T n).size) = False := eq_false (by omega)
      have f3 : (9223372036854775807 < (joinT T n).size + (T n).size) = False := eq_false (by omega)
      have f4 : (joinT T n ++ (⟨#[59]⟩ : ByteArray)).size = (joinT T n).size + 1 := ByteArray.size_append
      clear hlen s1 s2
      by_cases h0 : 0 < n
      · have e1 : joinT T (n + 1) = joinT T n ++ ⟨#[59]⟩ ++ T n := by rw [joinT, if_pos h0]
        have E1 := Aside0.mk e1
        clear e1
        go_wp2_with fail
        go_region_with (go_at_call 31; refine (LE.out _ (by repeat (first | exact Below.refl _ _ | apply pw_below_drewN | apply below_drew1))).mono ?_; rintro e w5 ⟨rfl, hb5⟩; have hb6 : Below wr.heap.size wr w5 := below_step (by repeat (first | exact Below.refl _ _ | apply pw_below_drewN | apply below_drew1)) hb5; have HB6 := Aside0.mk (HB.out.trans (hb6.mono HB.out.size)); clear hb5 hb6)
        all_goals (go_wp2_with fail; exact ⟨⟨n + 1, by omega, by rw [E1.out], by go_num, ⟨HB6.out⟩⟩, by simp [intOf]; omega⟩)
      · obtain rfl : n = 0 := by omega
        have e1 : joinT T (0 + 1) = joinT T 0 ++ T 0 := by
          show (if (0 : Nat) > 0 then joinT T 0 ++ ⟨#[59]⟩ else joinT T 0) ++ T 0 = joinT T 0 ++ T 0
          rw [if_neg (by omega)]
        have E1 := Aside0.mk e1
        clear e1
        go_wp2_with fail
        go_region_with (go_at_call 31; refine (LE.out _ (by repeat (first | exact Below.refl _ _ | apply pw_below_drewN | apply below_drew1))).mono ?_; rintro e w5 ⟨rfl, hb5⟩; have hb6 : Below wr.heap.size wr w5 := below_step (by repeat (first | exact Below.refl _ _ | apply pw_below_drewN | apply below_drew1)) hb5; have HB6 := Aside0.mk (HB.out.trans (hb6.mono HB.out.size)); clear hb5 hb6)
        all_goals (go_wp2_with fail; exact ⟨⟨0 + 1, by omega, by rw [E1.out], by go_num, ⟨HB6.out⟩⟩, by simp [intOf]; omega⟩)
    · obtain rfl : n = R := by omega
      go_wp2_with fail
      go_ret
      exact ⟨rfl, HB.out⟩
/-- What the reference answers. -/
theorem specMT_no (r c : Int) (l : List Int) (hl : l.length = 36) (hb : I8 r c) (ho : okM r c l = false) (w : World) :
    Calls Tryd.prog 6 #[.agg (mat r c l)] w fun e w' => e = .returned (.string ⟨#[]⟩) ∧ Below w.heap.size w w' := by
  go_enter Tryd.func6, Tryd.ntmps6
  go_wp2_with (go_at_call 14; refine (l02Ok_any _ 33 r c l hl hb _ (heap_at _ _ _ (by simp))).mono ?_; rw [ho]; rintro e w1 ⟨rfl, ⟨n1, rfl⟩⟩)
  go_ret
  exact ⟨rfl, pw_below_drewN (below_alloc (Below.refl _ _) _) _⟩
theorem specMT_yes (k R C : Nat) (l : List Int) (T : Nat → ByteArray) (hl : l.length = 36) (hR : 1 ≤ R ∧ R ≤ 6) (hC : 1 ≤ C ∧ C ≤ 6) (ho : okM R C l = true) (hT : ∀ i, i < R → spec_l01ListText.f k (cut l C i) = some (T i)) (hz : ∀ i, i < 6 → (T i).size ≤ 400000) (w : World) :
    Calls Tryd.prog 6 #[.agg (mat R C l)] w fun e w' => e = .returned (.string (joinT T R)) ∧ Below w.heap.size w w' := by
  have hb : I8 (R : Int) (C : Int) := ⟨by omega, by omega, by omega, by omega⟩
  have H2 := Aside0.mk (fun W (hg : W.heap[w.heap.size]? = some (.cells (mat R C l) 33)) => specText k w.heap.size R C 33 l T hl hR hC hT hz W hg)
  clear hT hz hR hC
  go_enter Tryd.func6, Tryd.ntmps6
  go_wp2_with (first
    | (go_at_call 14; refine (l02Ok_any _ 33 _ _ l hl hb _ (heap_at _ _ _ (by simp))).mono ?_; rw [ho]; rintro e w1 ⟨rfl, ⟨n1, rfl⟩⟩)
    | (go_at_call 15; refine (H2.out _ (by repeat (first | exact heap_at _ _ _ (by simp) | rw [World.heap_drewN]))).mono ?_; rintro e w5 ⟨rfl, hb5⟩; have HB5 := Aside0.mk (below_step (pw_below_drewN (below_alloc (Below.refl _ _) _) _) hb5); clear hb5))
  go_ret
  exact ⟨rfl, HB5.out⟩
end Go.Proofs.YtdgglnjegkmamaaDoor.Mx
