/- TraceMatrix, of both programs. No condition but the lengths and the kinds' bounds. -/
import Derived.Test.YtjffoemohcebjaaMx7
set_option linter.unusedVariables false
set_option linter.unusedSimpArgs false
namespace Go.Proofs.Ytjffoemohcebjaa.Mx
open Go.RowKit Go.Proofs.Ytjffoemohcebjaa.Arr Go.Proofs.YtjffoemohcebjaaW.PrintWords Go.Proofs.YtjffoemohcebjaaW.PrintLast

def X16 (a b : Int) : Int := Go.bits .xor .u16 a b
theorem X16_nat {a b : Int} (ha : 0 ≤ a ∧ a ≤ 65535) (hb : 0 ≤ b ∧ b ≤ 65535) : X16 a b = ((a.toNat ^^^ b.toNat : Nat) : Int) := u16_xor a b ha.1 (by omega) hb.1 (by omega)
theorem X16_in {a b : Int} (ha : 0 ≤ a ∧ a ≤ 65535) (hb : 0 ≤ b ∧ b ≤ 65535) : 0 ≤ X16 a b ∧ X16 a b ≤ 65535 := by
  rw [X16_nat ha hb]
  have := Nat.xor_lt_two_pow (x := a.toNat) (y := b.toNat) (n := 16) (by omega) (by omega)
  omega
theorem X16_zero {a : Int} (ha : 0 ≤ a ∧ a ≤ 65535) : X16 a 0 = a := by
  rw [X16_nat ha (by omega)]
  simp
  omega
/-- The sum of the first n cells with equal row and column. -/
def tr (l : List Int) : Nat → Int
  | 0 => 0
  | n + 1 => X16 (tr l n) (l.getD (n * 6 + n) 0)
theorem getD_in {l : List Int} (hx : ∀ x ∈ l, 0 ≤ x ∧ x ≤ 65535) (j : Nat) : 0 ≤ l.getD j 0 ∧ l.getD j 0 ≤ 65535 := by
  rw [List.getD_eq_getElem?_getD]
  by_cases h : j < l.length
  · rw [List.getElem?_eq_getElem h]
    exact hx _ (List.getElem_mem h)
  · rw [List.getElem?_eq_none (by omega)]
    simp
theorem tr_in {l : List Int} (hx : ∀ x ∈ l, 0 ≤ x ∧ x ≤ 65535) : ∀ n, 0 ≤ tr l n ∧ tr l n ≤ 65535
  | 0 => by simp [tr]
  | n + 1 => X16_in (tr_in hx n) (getD_in hx _)
theorem ok_cell {r c : Int} {l : List Int} (h : okM r c l = true) {i k : Nat} (hi : i < 6) (hk : k < 6) (ho : r ≤ i ∨ c ≤ k) : l.getD (i * 6 + k) 0 = 0 := by
  unfold okM at h
  simp only [Bool.and_eq_true, decide_eq_true_eq] at h
  have := fb_good (r := r) (c := c) (l := l) hk (i := i) (by rw [h.2]; omega)
  unfold badP at this
  exact Classical.not_not.1 (fun hn => this ⟨ho, hn⟩)
theorem okM_bounds {r c : Int} {l : List Int} (h : okM r c l = true) : 1 ≤ r ∧ r ≤ 6 ∧ 1 ≤ c ∧ c ≤ 6 := by
  unfold okM at h
  simp only [Bool.and_eq_true, decide_eq_true_eq] at h
  have h1 := inB_iff.1 h.1.1
  have h2 := inB_iff.1 h.1.2
  exact ⟨h1.1, h1.2, h2.1, h2.2⟩
theorem tr_eq {r c : Int} {l : List Int} (h : okM r c l = true) (hx : ∀ x ∈ l, 0 ≤ x ∧ x ≤ 65535) : ∀ n : Nat, r ≤ n → n ≤ 6 → tr l n = tr l r.toNat := by
  have hb := okM_bounds h
  have main : ∀ d : Nat, r.toNat + d ≤ 6 → tr l (r.toNat + d) = tr l r.toNat := by
    intro d
    induction d with
    | zero => intro _; rfl
    | succ d ih =>
      intro hd
      show X16 (tr l (r.toNat + d)) (l.getD ((r.toNat + d) * 6 + (r.toNat + d)) 0) = _
      rw [ok_cell h (by omega) (by omega) (.inl (by omega)), X16_zero (tr_in hx _)]
      exact ih (by omega)
  intro n h1 h2
  have := main (n - r.toNat) (by omega)
  rwa [show r.toNat + (n - r.toNat) = n by omega] at this
def sqC (r c : Int) (l : List Int) : Int := if okM r c l = true then (if r = c then 0 else 4) else 1
def trV (r c : Int) (l : List Int) : Int := if okM r c l = true then (if r = c then tr l 6 else 0) else 0
set_option maxHeartbeats 800000 in
set_option maxRecDepth 100000 in
theorem specTrace (r c : Int) (l : List Int) (hl : l.length = 36) (hb : I8 r c) (w : World) :
    Calls Try.prog 17 #[.agg (mat r c l)] w fun e w' => e = .returned (.tuple #[.int .u16 (trV r c l), .int .i64 (sqC r c l)]) ∧ Below w.heap.size w w' := by
  have HL := Aside0.mk hl
  have HI := Aside0.mk hb
  have HG := Aside0.mk (heap_at w (.cells (mat r c l) 33) _ rfl)
  have e0 := mat_0 r c l
  have e1 := mat_1 r c l
  clear hl hb
  unfold trV sqC
  cases hv : okM r c l with
  | false =>
    have HV := Aside0.mk hv
    clear hv
    go_enter Try.func17, Try.ntmps17
    go_wp2_with (go_at_call 31; refine (l02Ok_any _ 33 r c l HL.out HI.out _ HG.out).mono ?_; rw [HV.out]; rintro e w1 ⟨rfl, ⟨n1, rfl⟩⟩)
    go_ret2
    exact ⟨rfl, pw_below_drewN (below_alloc (Below.refl _ _) _) _⟩
  | true =>
    have HV := Aside0.mk hv
    clear hv
    by_cases hrc : r = c
    · subst hrc
      simp only [if_true]
      go_enter Try.func17, Try.ntmps17
      go_wp2_with (go_at_call 31; refine (l02Ok_any _ 33 r r l HL.out HI.out _ HG.out).mono ?_; rw [HV.out]; rintro e w1 ⟨rfl, ⟨n1, rfl⟩⟩)
      go_loopw [4, 5] (fun s i w' => ∃ n : Nat, n ≤ 6 ∧ i = .int .i64 n ∧ s = .int .u16 (tr l n) ∧ Drawn0 (w.alloc (.cells (mat r r l) 33)) w') (fun s i w' => 6 - (intOf i).toNat)
      case atStart => exact ⟨0, by omega, rfl, rfl, ⟨_, rfl⟩⟩
      case round =>
        obtain ⟨n, hn, rfl, rfl, ⟨m1, rfl⟩⟩ := hrel
        by_cases hlt : n < 6
        · have gx := mat_cell HG.out HL.out hlt hlt
          have HT := Aside0.mk (show tr l (n + 1) = Go.bits .xor .u16 (tr l n) (l.getD (n * 6 + n) 0) from rfl)
          generalize l.getD (n * 6 + n) 0 = x at gx HT
          generalize tr l n = y at HT ⊢
          go_wp2_with fail
          exact ⟨⟨n + 1, by omega, by go_num, congrArg (Value.int .u16) HT.out.symm, ⟨_, rfl⟩⟩, by simp [intOf]; omega⟩
        · obtain rfl : n = 6 := by omega
          go_wp2_with fail
          go_ret2
          exact ⟨rfl, pw_below_drewN (below_alloc (Below.refl _ _) _) _⟩
    · have hn : (r != c) = true := by simpa using hrc
      simp only [if_true, if_neg hrc]
      go_enter Try.func17, Try.ntmps17
      go_wp2_with (go_at_call 31; refine (l02Ok_any _ 33 r c l HL.out HI.out _ HG.out).mono ?_; rw [HV.out]; rintro e w1 ⟨rfl, ⟨n1, rfl⟩⟩)
      go_ret2
      exact ⟨rfl, pw_below_drewN (below_alloc (Below.refl _ _) _) _⟩
set_option maxHeartbeats 800000 in
set_option maxRecDepth 100000 in
theorem squareCode (r c : Int) (l : List Int) (hl : l.length = 36) (hb : I8 r c) (w : World) :
    Calls Try.prog 38 #[.agg (mat r c l)] w fun e w' => e = .returned (.int .i64 (sqC r c l)) ∧ Below w.heap.size w w' := by
  have HL := Aside0.mk hl
  have HI := Aside0.mk hb
  have HX := Aside0.mk (Bx.start w (.cells (mat r c l) 33))
  have HS := Aside0.mk (mat_size r c l hl)
  clear hl hb
  unfold sqC
  cases hv : okM r c l with
  | false =>
    have HV := Aside0.mk hv
    clear hv
    go_enter Try.func38, Try.ntmps38
    go_wp2_with (first
      | (refine wpList_load_row rfl 33 _ rfl w.heap.size rfl 33 _ (0, 0) _ HX.out.hg Try.underlying33 rfl (size33.trans (congrArg some HS.out.symm)) ?_)
      | (go_at_call 13; refine (implValid r c l HL.out HI.out _).mono ?_; rw [HV.out]; rintro e w2 ⟨rfl, hb2⟩; replace HX := Aside0.mk (HX.out.step hb2); clear hb2))
    go_ret
    exact ⟨rfl, HX.out.hb⟩
  | true =>
    have HV := Aside0.mk hv
    clear hv
    by_cases hrc : r = c
    · subst hrc
      simp only [if_true]
      go_enter Try.func38, Try.ntmps38
      go_wp2_with (first
        | (refine wpList_load_row rfl 33 _ rfl w.heap.size rfl 33 _ (0, 0) _ HX.out.hg Try.underlying33 rfl (size33.trans (congrArg some HS.out.symm)) ?_)
        | (go_at_call 13; refine (implValid r r l HL.out HI.out _).mono ?_; rw [HV.out]; rintro e w2 ⟨rfl, hb2⟩; replace HX := Aside0.mk (HX.out.step hb2); have g0 := mat_cell0 HX.out.hg; have g1 := mat_cell1 HX.out.hg; clear hb2))
      go_ret
      exact ⟨rfl, HX.out.hb⟩
    · have hn : (r != c) = true := by simpa using hrc
      simp only [if_true, if_neg hrc]
      go_enter Try.func38, Try.ntmps38
      go_wp2_with (first
        | (refine wpList_load_row rfl 33 _ rfl w.heap.size rfl 33 _ (0, 0) _ HX.out.hg Try.underlying33 rfl (size33.trans (congrArg some HS.out.symm)) ?_)
        | (go_at_call 13; refine (implValid r c l HL.out HI.out _).mono ?_; rw [HV.out]; rintro e w2 ⟨rfl, hb2⟩; replace HX := Aside0.mk (HX.out.step hb2); have g0 := mat_cell0 HX.out.hg; have g1 := mat_cell1 HX.out.hg; clear hb2))
      go_ret
      exact ⟨rfl, HX.out.hb⟩
theorem i8_next {n : Nat} (hn : n ≤ 6) : IntKind.i8.wrap ((n : Int) + 1) = (n : Int) + 1 := by
  have : n = 0 ∨ n = 1 ∨ n = 2 ∨ n = 3 ∨ n = 4 ∨ n = 5 ∨ n = 6 := by omega
  rcases this with rfl | rfl | rfl | rfl | rfl | rfl | rfl <;> decide
set_option maxHeartbeats 800000 in
set_option maxRecDepth 100000 in
theorem implTrace (r c : Int) (l : List Int) (hl : l.length = 36) (hb : I8 r c) (hx : ∀ x ∈ l, 0 ≤ x ∧ x ≤ 65535) (w : World) :
    Calls Try.prog 18 #[.agg (mat r c l)] w fun e w' => e = .returned (.tuple #[.int .u16 (trV r c l), .int .i64 (sqC r c l)]) ∧ Below w.heap.size w w' := by
  have HL := Aside0.mk hl
  have HI := Aside0.mk hb
  have HX := Aside0.mk (Bx.start w (.cells (mat r c l) 33))
  have HS := Aside0.mk (mat_size r c l hl)
  by_cases hk : sqC r c l = 0
  · have hv : okM r c l = true := by
      unfold sqC at hk
      by_cases h : okM r c l = true
      · exact h
      · rw [if_neg h] at hk; cases hk
    have hrc : r = c := by
      unfold sqC at hk
      rw [if_pos hv] at hk
      by_cases h : r = c
      · exact h
      · rw [if_neg h] at hk; cases hk
    subst hrc
    have hbd := okM_bounds hv
    have HT := Aside0.mk (tr_eq hv hx)
    have hV : trV r r l = tr l 6 := by unfold trV; rw [if_pos hv, if_pos rfl]
    rw [hV, hk]
    obtain ⟨b1, b2, _, _⟩ := hbd
    have HV := Aside0.mk hv
    have HK := Aside0.mk hk
    clear hl hb hx hv hV hk
    go_enter Try.func18, Try.ntmps18
    go_wp2_with (first
      | (refine wpList_load_row rfl 33 _ rfl w.heap.size rfl 33 _ (0, 0) _ HX.out.hg Try.underlying33 rfl (size33.trans (congrArg some HS.out.symm)) ?_)
      | (go_at_call 38; refine (squareCode r r l HL.out HI.out _).mono ?_; rw [HK.out]; rintro e w2 ⟨rfl, hb2⟩; replace HX := Aside0.mk (HX.out.step hb2); have g0 := mat_cell0 HX.out.hg; clear hb2))
    go_loopw [5, 14] (fun s i w' => ∃ n : Nat, (n : Int) ≤ r ∧ i = .int .i8 n ∧ s = .int .u16 (tr l n) ∧ Aside0 (Bx w w' (.cells (mat r r l) 33))) (fun s i w' => 6 - (intOf i).toNat)
    case atStart => exact ⟨0, by omega, rfl, rfl, (by first | exact HX | exact ⟨HX.out.drewN _⟩)⟩
    case round =>
      clear HX
      obtain ⟨n, hn, rfl, rfl, HX⟩ := hrel
      have hw8 := i8_next (n := n) (by omega)
      by_cases hlt : (n : Int) < r
      · have gx := mat_cell HX.out.hg HL.out (i := n) (k := n) (by omega) (by omega)
        have HT2 := Aside0.mk (show tr l (n + 1) = Go.bits .xor .u16 (tr l n) (l.getD (n * 6 + n) 0) from rfl)
        generalize l.getD (n * 6 + n) 0 = x at gx HT2
        generalize tr l n = y at HT2 ⊢
        go_wp2_with fail
        exact ⟨⟨n + 1, by omega, by go_num, congrArg (Value.int .u16) HT2.out.symm, (by first | exact HX | exact ⟨HX.out.drewN _⟩)⟩, by simp [intOf]; omega⟩
      · have e6 : tr l n = tr l 6 := by rw [HT.out 6 (by omega) (by omega)]; congr 1; omega
        rw [e6]
        clear e6
        go_wp2_with fail
        go_ret2
        exact ⟨rfl, (by first | exact HX.out.hb | exact (HX.out.drewN _).hb)⟩
  · have hV : trV r c l = 0 := by
      unfold trV
      unfold sqC at hk
      by_cases h : okM r c l = true
      · rw [if_pos h] at hk ⊢
        by_cases h2 : r = c
        · rw [if_pos h2] at hk; exact absurd rfl hk
        · rw [if_neg h2]
      · rw [if_neg h]
    have hn : (sqC r c l != 0) = true := by simpa using hk
    rw [hV]
    generalize hq : sqC r c l = q at hn ⊢
    have HQ := Aside0.mk hq
    clear hq hk hV hl hb hx
    go_enter Try.func18, Try.ntmps18
    go_wp2_with (first
      | (refine wpList_load_row rfl 33 _ rfl w.heap.size rfl 33 _ (0, 0) _ HX.out.hg Try.underlying33 rfl (size33.trans (congrArg some HS.out.symm)) ?_)
      | (go_at_call 38; refine (squareCode r c l HL.out HI.out _).mono ?_; rw [HQ.out]; rintro e w2 ⟨rfl, hb2⟩; replace HX := Aside0.mk (HX.out.step hb2); clear hb2))
    go_ret2
    exact ⟨rfl, HX.out.hb⟩
set_option maxHeartbeats 800000 in
set_option maxRecDepth 100000 in
theorem law_TraceMatrix (r c : Int) (l : List Int) (hl : l.length = 36) (hb : I8 r c) (hx : ∀ x ∈ l, 0 ≤ x ∧ x ≤ 65535) (w : World) :
    Calls Try.prog 5 #[.agg (mat r c l)] w fun e w' => e = .returned (.bool true) ∧ Below w.heap.size w w' := by
  have HL := Aside0.mk hl
  have HI := Aside0.mk hb
  have HXX := Aside0.mk hx
  have HS := Aside0.mk (mat_size r c l hl)
  have HX := Aside0.mk (Bx.start w (.cells (mat r c l) 27))
  have H1 := Aside0.mk (specTrace r c l hl hb)
  have H2 := Aside0.mk (implTrace r c l hl hb hx)
  clear hl hb hx
  generalize trV r c l = v at H1 H2
  generalize sqC r c l = q at H1 H2
  go_enter Try.func5, Try.ntmps5
  go_wp2_with (first
    | (refine wpList_load_row rfl 27 _ rfl w.heap.size rfl 27 _ (0, 0) _ HX.out.hg Try.underlying27 rfl (size27.trans (congrArg some HS.out.symm)) ?_)
    | (go_at_call 12; refine (toM r c l HL.out _).mono ?_; rintro e w2 ⟨rfl, hb2⟩; replace HX := Aside0.mk (HX.out.step hb2); clear hb2)
    | (go_at_call 17; refine (H1.out _).mono ?_; rintro e w2 ⟨rfl, hb2⟩; replace HX := Aside0.mk (HX.out.step hb2); clear hb2)
    | (go_at_call 18; refine (H2.out _).mono ?_; rintro e w2 ⟨rfl, hb2⟩; replace HX := Aside0.mk (HX.out.step hb2); clear hb2))
  go_ret
  exact ⟨rfl, HX.out.hb⟩
end Go.Proofs.Ytjffoemohcebjaa.Mx
