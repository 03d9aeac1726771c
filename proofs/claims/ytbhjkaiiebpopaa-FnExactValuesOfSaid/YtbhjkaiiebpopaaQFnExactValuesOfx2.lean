/- Written by the session's own program (wip/myprint.py), for the law FnExactValuesOf: each function as a plain Lean function, and its contract. -/
import Derived.Test.YtbhjkaiiebpopaaQFnExactValuesOfx0
import Derived.Test.YtbhjkaiiebpopaaQFnExactValuesOfx1
namespace Go.Proofs.Ytbhjkaiiebpopaa.QFnExactValuesOf
open Go.RowKit Go.Proofs.YtbhjkaiiebpopaaW.PrintWords Go.Proofs.YtbhjkaiiebpopaaW.PrintLast Go.Proofs.YtbhjkaiiebpopaaW.PrintMore
attribute [local go_sem] max2_int min2_int max_two min_two max_three min_three max_four min_four   -- for this text's walks alone
set_option linter.unusedVariables false
set_option linter.unusedSimpArgs false

/-! ### laws_markGame: function 22 -/
def markRows (k : Nat) : List (List Int) → Int → Option (Int × List (List Int))
  | [], a => some (a, [])
  | x :: xs, a => (laws_markInt8S.f k x a).bind fun p => (markRows k xs p.1).bind fun q => some (q.1, p.2 :: q.2)
theorem markRows_cons {k : Nat} {x : List Int} {xs : List (List Int)} {a r : Int} {R : List (List Int)} (h : markRows k (x :: xs) a = some (r, R)) :
    ∃ r' x' rest, laws_markInt8S.f k x a = some (r', x') ∧ markRows k xs r' = some (r, rest) ∧ R = x' :: rest := by
  unfold markRows at h
  obtain ⟨⟨r', x'⟩, h1, h2⟩ := Option.bind_eq_some_iff.mp h
  obtain ⟨⟨r3, rest⟩, h3, h4⟩ := Option.bind_eq_some_iff.mp h2
  injection h4 with h4
  injection h4 with h5 h6
  exact ⟨r', x', rest, h1, by rw [← h5]; exact h3, h6.symm⟩
theorem markRows_mono (k : Nat) : ∀ (xs : List (List Int)) (a : Int), LeO (markRows k xs a) (markRows (k + 1) xs a) := by
  intro xs
  induction xs with
  | nil => intro a; exact LeO.refl _
  | cons x t ih => intro a; exact LeO.bind (laws_markInt8S.mono _ _ _) (fun p => LeO.bind (ih _) (fun _ => LeO.refl _))
/-- What markGame writes and gives back. -/
def laws_markGame.f (k : Nat) (l0 : List (List Int)) (a1 : Int) : Option (Int × List (List Int)) := markRows k l0 a1
theorem laws_markGame.mono : ∀ a0 a1 k, LeO (laws_markGame.f k a0 a1) (laws_markGame.f (k + 1) a0 a1) := fun a0 a1 k => markRows_mono k a0 a1
theorem mg_set (pre : List (List Int)) (x x' : List Int) (t : List (List Int)) : (pre ++ x :: t).set pre.length x' = (pre ++ [x']) ++ t := by
  induction pre with
  | nil => rfl
  | cons p q ih =>
    show p :: ((q ++ x :: t).set q.length x') = _
    rw [ih]
    rfl
theorem mg_at (pre : List (List Int)) (x : List Int) (t : List (List Int)) : (pre ++ x :: t).getD ((pre.length : Int)).toNat [] = x := by
  simp [List.getD_eq_getElem?_getD]
/-- One row, lent, written and put back. -/
theorem mg_lend {w : World} {base g n cap : Nat} {ok : Nat → Prop} {pre : List (List Int)} {x : List Int} {t : List (List Int)}
    (h : Kd.S (Kd.slice 72 (Kd.int .i8)) 70 w base ok (.slice (some ⟨g, 0, none⟩) n cap) (pre ++ x :: t)) :
    ∃ (oki : Nat → Prop) (A : Option Addr) (c : Nat), Kd.R (Kd.int .i8) 72 w base oki (.slice A x.length c) x ∧ w.cell? ⟨g, pre.length, none⟩ = some (.slice A x.length c) ∧ (∀ k, oki k → ok k) ∧
      ∀ (w2 : World) (x' : List Int) (okp : Nat → Prop), Kept w w2 oki → Kd.R (Kd.int .i8) 72 w2 base okp (.slice A x.length c) x' → (∀ k, okp k → oki k ∨ (ok k ∧ w.heap.size ≤ k)) → Kd.S (Kd.slice 72 (Kd.int .i8)) 70 w2 base ok (.slice (some ⟨g, 0, none⟩) n cap) ((pre ++ [x']) ++ t) := by
  have hn := (Kd.S_reads' h).1
  rw [List.length_append, List.length_cons] at hn
  obtain ⟨oki, c, hc, hM, hcell, hok, hH⟩ := Kd.S_lend h ([] : List Int) (pre.length : Int) (by omega) (by omega)
  rw [mg_at] at hM
  obtain ⟨v, rfl, hR⟩ := hM
  obtain ⟨A, cc, rfl⟩ := Kd.R_slice hR
  refine ⟨oki, A, cc, hR, ?_, fun k hk => (hok k hk).1, ?_⟩
  · have := hcell 0 _ rfl
    have hs : ((pre.length : Int)).toNat * (Kd.slice 72 (Kd.int .i8)).sz + 0 = pre.length := by show pre.length * 1 + 0 = pre.length; omega
    rw [hs] at this
    exact this
  · intro w2 x' okp hk hR2 hokp
    have h2 := Kd.H_kept (Kd.H_widen hH) hk (fun k _ hn hs => hn (.inl hs))
    have h3 := Kd.H_back h2 (x' := x') (okp := okp) ⟨_, rfl, hR2⟩ hokp
    have e : ((pre.length : Int)).toNat = pre.length := by omega
    rw [e, mg_set] at h3
    exact h3
set_option maxHeartbeats 400000 in
set_option maxRecDepth 100000 in
theorem laws_markGame.calls (k : Nat) (P0_ : Nat → Prop) (u9000_ : Value) (l0 : List (List Int)) (a1 : Int) (r1 : Int) (r2 : List (List Int)) (w0 w : World) (hB : Below w0.heap.size w0 w) (ho0 : Kd.S (Kd.slice 72 (Kd.int .i8)) 70 w w0.heap.size P0_ u9000_ l0) (h : laws_markGame.f k l0 a1 = some (r1, r2)) :
    Calls Try.prog 22 #[u9000_, .int .i64 a1] w fun e w' => e = .returned (.int .i64 r1) ∧ Kd.S (Kd.slice 72 (Kd.int .i8)) 70 w' w0.heap.size (fun k_ => (P0_ k_ ∨ w.heap.size ≤ k_)) u9000_ r2 ∧ Below w0.heap.size w0 w' ∧ Kept w w' (fun k_ => P0_ k_) := by
  have HO := Aside0.mk (Kd.S_mono (ok' := fun k_ => (P0_ k_ ∨ w.heap.size ≤ k_)) ho0 (fun k_ hk => (.inl hk)))
  have HK := Aside0.mk (Kept.refl w (fun k_ => P0_ k_))
  have HB := Aside0.mk hB
  have HF := Aside0.mk (show markRows k l0 a1 = some (r1, r2) from h)
  obtain ⟨A, cap, rfl⟩ := Kd.S_slice ho0
  have hm := (Kd.S_reads' ho0).2.2.2.1
  clear ho0 hB h
  go_enter Try.func22, Try.ntmps22
  go_wp2
  go_loopw [1, 5] (fun v1 v5 w' => ∃ (n : Nat) (x1 : Int) (pre t rest : List (List Int)), v1 = .int .i64 x1 ∧ v5 = .int .i64 n ∧ pre.length = n ∧ n + t.length = l0.length ∧ Aside0 (markRows k t x1 = some (r1, rest)) ∧ Aside0 (r2 = pre ++ rest) ∧ Aside0 (Kd.S (Kd.slice 72 (Kd.int .i8)) 70 w' w0.heap.size (fun k_ => (P0_ k_ ∨ w.heap.size ≤ k_)) (.slice A l0.length cap) (pre ++ t)) ∧ Aside0 (Kept w w' (fun k_ => P0_ k_)) ∧ Aside0 (Below w0.heap.size w0 w')) (fun v1 v5 w' => l0.length - (intOf v5).toNat)
  case atStart => exact ⟨0, a1, [], l0, r2, rfl, rfl, rfl, by omega, HF, ⟨rfl⟩, HO, HK, HB⟩
  case round =>
    clear HO HK HB HF
    obtain ⟨n, x1, pre, t, rest, rfl, rfl, hp, hl, HF, HR2, HO, HK, HB⟩ := hrel
    cases t with
    | nil =>
      have hn : n = l0.length := by simpa using hl
      subst hn
      have hf := HF.out
      unfold markRows at hf
      injection hf with hf
      injection hf with hf1 hf2
      subst hf1
      have e := HR2.out
      rw [← hf2, List.append_nil] at e
      have ho := HO.out
      rw [List.append_nil, ← e] at ho
      have HO' := Aside0.mk ho
      clear ho e HO HR2 HF hf2 hl
      go_wp2
      go_ret
      exact ⟨rfl, HO'.out, HB.out, HK.out⟩
    | cons x t =>
      obtain ⟨r', x', rest', hf, hg, rfl⟩ := markRows_cons HF.out
      have hlt : n < l0.length := by simp at hl; omega
      obtain ⟨g, cap', he, _, _, _⟩ := Kd.S_form HO.out (by rw [List.length_append, List.length_cons]; omega)
      have hlen : (pre ++ x :: t).length = l0.length := by simp at hl ⊢; omega
      injection he with hA hnn hcap
      clear hnn
      subst hA hcap
      subst hp
      obtain ⟨oki, A', c', hR, hcell, hok, hback⟩ := mg_lend HO.out
      have HRR := Aside0.mk hR
      have HF' := Aside0.mk hf
      have HG := Aside0.mk hg
      have HOK := Aside0.mk hok
      have HBK := Aside0.mk hback
      clear hR hf hg hok hback
      have hltb : decide ((pre.length : Int) < (l0.length : Int)) = true := decide_eq_true (by omega)
      have HL := Aside0.mk hl
      have HLT := Aside0.mk hlt
      clear hl hlen
      go_wp2_with (go_at_call 60; refine (laws_markInt8S.calls k oki _ x x1 r' x' w0 _ HB.out HRR.out HF'.out).mono ?_; rintro e w2 ⟨rfl, hR2, hB2, hK2⟩; have HS := Aside0.mk (HBK.out w2 x' _ hK2 hR2 (fun k_ hk_ => hk_.elim .inl (fun h_ => .inr ⟨.inr (Nat.le_trans HK.out.1 h_), h_⟩))); have HK2 := Aside0.mk (HK.out.then_ hK2 (fun k_ hk_ => HOK.out k_ hk_)); have HB2 := Aside0.mk hB2; clear hR2 hB2 hK2)
      exact ⟨⟨pre.length + 1, r', pre ++ [x'], t, rest', rfl, by go_num, by simp, by have hl := HL.out; simp at hl ⊢; omega, HG, ⟨by rw [HR2.out]; simp⟩, HS, HK2, HB2⟩, by have := HLT.out; simp [intOf]; omega⟩

/-! ### laws_eqNimberS: function 26 -/
def laws_eqNimberS.l0 : Nat → List Int → List Int → Int → Option (Bool)
  | 0, _, _, _ => none
  | k + 1, x0, x1, x5 => if x5 < (x0.length : Int) then (if 0 ≤ x5 then (if x5 < (x1.length : Int) then (if (rd x0 x5) = (rd x1 x5) then (laws_eqNimberS.l0 k x0 x1 (wrap64 (x5 + 1))) else (some false)) else (none)) else (none)) else (some true)
def laws_eqNimberS.f (k : Nat) (l0 : List Int) (l1 : List Int) : Option (Bool) := if (l0.length : Int) = (l1.length : Int) then (laws_eqNimberS.l0 k l0 l1 0) else (some false)
theorem laws_eqNimberS.mono_l : ∀ k, (∀ y0 y1 y2, LeO (laws_eqNimberS.l0 k y0 y1 y2) (laws_eqNimberS.l0 (k + 1) y0 y1 y2))
  | 0 => fun _ _ _ r h => by simp [laws_eqNimberS.l0] at h
  | k + 1 => by
    have ih0 := laws_eqNimberS.mono_l k
    · intro y0 y1 y2
      unfold laws_eqNimberS.l0
      repeat' first
      | (with_reducible exact ih0 _ _ _)
      | (with_reducible exact LeO.refl _)
      | (with_reducible exact LeO.none _)
      | (with_reducible refine LeO.ite ?_ ?_)
      | (with_reducible refine LeO.bind ?_ (fun _ => ?_))
      | exact ih0 _ _ _
      | exact LeO.none _
      | refine LeO.ite ?_ ?_
      | refine LeO.bind ?_ (fun _ => ?_)
theorem laws_eqNimberS.mono : ∀ a0 a1 k, LeO (laws_eqNimberS.f k a0 a1) (laws_eqNimberS.f (k + 1) a0 a1) := by
  intro a0 a1 k
  have ih0 := laws_eqNimberS.mono_l k
  unfold laws_eqNimberS.f
  repeat' first
      | (with_reducible exact ih0 _ _ _)
      | (with_reducible exact LeO.refl _)
      | (with_reducible exact LeO.none _)
      | (with_reducible refine LeO.ite ?_ ?_)
      | (with_reducible refine LeO.bind ?_ (fun _ => ?_))
      | exact ih0 _ _ _
      | exact LeO.none _
      | refine LeO.ite ?_ ?_
      | refine LeO.bind ?_ (fun _ => ?_)
set_option maxHeartbeats 8000000 in
set_option maxRecDepth 100000 in
theorem laws_eqNimberS.calls (k : Nat) (A0 : Option Addr) (c0 : Nat) (l0 : List Int) (A1 : Option Addr) (c1 : Nat) (l1 : List Int) (r : Bool) (w : World) (hr0 : Kd.C (Kd.int .u16) w A0 l0.length l0) (hc0 : l0.length ≤ c0) (hr1 : Kd.C (Kd.int .u16) w A1 l1.length l1) (hc1 : l1.length ≤ c1) (h : laws_eqNimberS.f k l0 l1 = some r) :
    Calls Try.prog 26 #[.slice A0 l0.length c0, .slice A1 l1.length c1] w fun e w' => e = .returned (.bool r) ∧ Drawn0 w w' := by
  have HR0 := Aside0.mk hr0
  have HC0 := Aside0.mk hc0
  clear hr0 hc0
  have HR1 := Aside0.mk hr1
  have HC1 := Aside0.mk hc1
  clear hr1 hc1
  have H : (if (l0.length : Int) = (l1.length : Int) then (laws_eqNimberS.l0 k l0 l1 0) else (some false)) = some r := h
  clear h
  by_cases c3 : (l0.length : Int) = (l1.length : Int)
  · rw [if_pos c3] at H
    have c3b0 : ((l0.length : Int) == (l1.length : Int)) = true := beq_iff_eq.mpr c3
    have c3b1 : ((l0.length : Int) != (l1.length : Int)) = false := bne_eq_false_iff_eq.mpr c3
    have c3b2 : (l0.length == l1.length) = true := by first | simpa using c3 | (simp at c3 ⊢; omega)
    clear c3
    have H' := Aside0.mk H
    clear H
    go_enter Try.func26, Try.ntmps26
    go_wp2
    repeat (go_quiet (fail); try go_wp2)
    go_loopg [5] k (fun kq v5 w' => ∃ (x5_1 : Int), v5 = .int .i64 x5_1 ∧ Aside0 (laws_eqNimberS.l0 kq l0 l1 x5_1 = some r) ∧ Aside0 (kq ≤ k) ∧ Drawn0 w w')
    case atStart => exact ⟨(0), (by first | rfl | (simp; done) | (simp [*]; done)), H', ⟨Nat.le_refl _⟩, by repeat (first | exact Drawn0.refl _ | apply Drawn0.step)⟩
    case round =>
      clear H'
      try clear c1
      try clear c2
      try clear p2
      try clear c3
      try clear c3b0
      try clear c3b1
      try clear c3b2
      obtain ⟨x5_1, rfl, HA, HK1, ⟨m1, rfl⟩⟩ := hrel
      cases gk with
      | zero => exact absurd HA.out (by simp [laws_eqNimberS.l0])
      | succ k1 =>
        have H := HA.out
        clear HA
        simp only [laws_eqNimberS.l0] at H
        by_cases c4 : x5_1 < (l0.length : Int)
        · rw [if_pos c4] at H
          have c4b0 : decide (x5_1 < (l0.length : Int)) = true := decide_eq_true c4
          clear c4
          by_cases c5 : 0 ≤ x5_1
          · rw [if_pos c5] at H
            have c5b0 : decide (0 ≤ x5_1) = true := decide_eq_true c5
            clear c5
            by_cases c6 : x5_1 < (l1.length : Int)
            · rw [if_pos c6] at H
              have c6b0 : decide (x5_1 < (l1.length : Int)) = true := decide_eq_true c6
              clear c6
              by_cases c7 : (rd l0 x5_1) = (rd l1 x5_1)
              · rw [if_pos c7] at H
                have c7b0 : ((rd l0 x5_1) == (rd l1 x5_1)) = true := beq_iff_eq.mpr c7
                have c7b1 : ((rd l0 x5_1) != (rd l1 x5_1)) = false := bne_eq_false_iff_eq.mpr c7
                clear c7
                have H' := Aside0.mk H
                clear H
                have p122 : 0 ≤ (x5_1 : Int) := of_decide_eq_true (by first | (with_reducible assumption) | assumption)
                have q122 : x5_1 < (l0.length : Int) := of_decide_eq_true (by first | (with_reducible assumption) | assumption)
                obtain ⟨ad122, e122, hx122_0⟩ := Kd.at_int HR0.out x5_1 p122 q122
                cases e122
                replace p122 := eq_true p122
                replace q122 := eq_true q122
                have p123 : 0 ≤ (x5_1 : Int) := of_decide_eq_true (by first | (with_reducible assumption) | assumption)
                have q123 : x5_1 < (l1.length : Int) := of_decide_eq_true (by first | (with_reducible assumption) | assumption)
                obtain ⟨ad123, e123, hx123_0⟩ := Kd.at_int HR1.out x5_1 p123 q123
                cases e123
                replace p123 := eq_true p123
                replace q123 := eq_true q123
                go_wp2
                repeat (go_quiet (fail); try go_wp2)
                go_roundg k1
                case measure => have := HK1.out; omega
                case rel => exact ⟨(wrap64 (x5_1 + 1)), (by first | rfl | (simp; done) | (simp [*]; done)), H', ⟨by have := HK1.out; omega⟩, by repeat (first | exact Drawn0.refl _ | apply Drawn0.step)⟩
              · rw [if_neg c7] at H
                have c7b0 : ((rd l0 x5_1) == (rd l1 x5_1)) = false := beq_eq_false_iff_ne.mpr c7
                have c7b1 : ((rd l0 x5_1) != (rd l1 x5_1)) = true := bne_iff_ne.mpr c7
                obtain rfl := Option.some.inj H
                have p122 : 0 ≤ (x5_1 : Int) := of_decide_eq_true (by first | (with_reducible assumption) | assumption)
                have q122 : x5_1 < (l0.length : Int) := of_decide_eq_true (by first | (with_reducible assumption) | assumption)
                obtain ⟨ad122, e122, hx122_0⟩ := Kd.at_int HR0.out x5_1 p122 q122
                cases e122
                replace p122 := eq_true p122
                replace q122 := eq_true q122
                have p123 : 0 ≤ (x5_1 : Int) := of_decide_eq_true (by first | (with_reducible assumption) | assumption)
                have q123 : x5_1 < (l1.length : Int) := of_decide_eq_true (by first | (with_reducible assumption) | assumption)
                obtain ⟨ad123, e123, hx123_0⟩ := Kd.at_int HR1.out x5_1 p123 q123
                cases e123
                replace p123 := eq_true p123
                replace q123 := eq_true q123
                go_wp2
                repeat (go_quiet (fail); try go_wp2)
                go_ret
                exact ⟨by first | rfl | (simp; done) | (simp [*]; done), by repeat (first | exact Drawn0.refl _ | apply Drawn0.step)⟩
            · rw [if_neg c6] at H
              exact absurd H (by simp)
          · rw [if_neg c5] at H
            exact absurd H (by simp)
        · rw [if_neg c4] at H
          have c4b0 : decide (x5_1 < (l0.length : Int)) = false := decide_eq_false c4
          clear c4
          obtain rfl := Option.some.inj H
          go_wp2
          repeat (go_quiet (fail); try go_wp2)
          go_ret
          exact ⟨by first | rfl | (simp; done) | (simp [*]; done), by repeat (first | exact Drawn0.refl _ | apply Drawn0.step)⟩
  · rw [if_neg c3] at H
    have c3b0 : ((l0.length : Int) == (l1.length : Int)) = false := beq_eq_false_iff_ne.mpr c3
    have c3b1 : ((l0.length : Int) != (l1.length : Int)) = true := bne_iff_ne.mpr c3
    have c3b2 : (l0.length == l1.length) = false := by first | simpa using c3 | (simp at c3 ⊢; omega)
    obtain rfl := Option.some.inj H
    go_enter Try.func26, Try.ntmps26
    go_wp2
    repeat (go_quiet (fail); try go_wp2)
    go_ret
    exact ⟨by first | rfl | (simp; done) | (simp [*]; done), by repeat (first | exact Drawn0.refl _ | apply Drawn0.step)⟩

/-! ### laws_markNimberS: function 27 -/
def laws_markNimberS.l0 : Nat → List Int → Int → Int → Option (Int × List Int)
  | 0, _, _, _ => none
  | k + 1, x0, x1, x5 => if x5 < (x0.length : Int) then (if 0 ≤ x5 then (laws_markNimberS.l0 k (x0.set (x5 : Int).toNat (IntKind.u16.wrap (x1))) (wrap64 (x1 + 1)) (wrap64 (x5 + 1))) else (none)) else (some (x1, x0))
def laws_markNimberS.f (k : Nat) (l0 : List Int) (a1 : Int) : Option (Int × List Int) := laws_markNimberS.l0 k l0 a1 0
theorem laws_markNimberS.mono_l : ∀ k, (∀ y0 y1 y2, LeO (laws_markNimberS.l0 k y0 y1 y2) (laws_markNimberS.l0 (k + 1) y0 y1 y2))
  | 0 => fun _ _ _ r h => by simp [laws_markNimberS.l0] at h
  | k + 1 => by
    have ih0 := laws_markNimberS.mono_l k
    · intro y0 y1 y2
      unfold laws_markNimberS.l0
      repeat' first
      | (with_reducible exact ih0 _ _ _)
      | (with_reducible exact LeO.refl _)
      | (with_reducible exact LeO.none _)
      | (with_reducible refine LeO.ite ?_ ?_)
      | (with_reducible refine LeO.bind ?_ (fun _ => ?_))
      | exact ih0 _ _ _
      | exact LeO.none _
      | refine LeO.ite ?_ ?_
      | refine LeO.bind ?_ (fun _ => ?_)
theorem laws_markNimberS.mono : ∀ a0 a1 k, LeO (laws_markNimberS.f k a0 a1) (laws_markNimberS.f (k + 1) a0 a1) := by
  intro a0 a1 k
  have ih0 := laws_markNimberS.mono_l k
  unfold laws_markNimberS.f
  repeat' first
      | (with_reducible exact ih0 _ _ _)
      | (with_reducible exact LeO.refl _)
      | (with_reducible exact LeO.none _)
      | (with_reducible refine LeO.ite ?_ ?_)
      | (with_reducible refine LeO.bind ?_ (fun _ => ?_))
      | exact ih0 _ _ _
      | exact LeO.none _
      | refine LeO.ite ?_ ?_
      | refine LeO.bind ?_ (fun _ => ?_)
set_option maxHeartbeats 8000000 in
set_option maxRecDepth 100000 in
theorem laws_markNimberS.calls (k : Nat) (P0_ : Nat → Prop) (u9000_ : Value) (l0 : List Int) (a1 : Int) (r1 : Int) (r2 : List Int) (w0 w : World) (hB : Below w0.heap.size w0 w) (ho0 : Kd.R (Kd.int .u16) 47 w w0.heap.size P0_ u9000_ l0) (h : laws_markNimberS.f k l0 a1 = some (r1, r2)) :
    Calls Try.prog 27 #[u9000_, .int .i64 a1] w fun e w' => e = .returned (.int .i64 r1) ∧ Kd.R (Kd.int .u16) 47 w' w0.heap.size (fun k_ => (P0_ k_ ∨ w.heap.size ≤ k_)) u9000_ r2 ∧ Below w0.heap.size w0 w' ∧ Kept w w' (fun k_ => P0_ k_) := by
  have HO0 := Aside0.mk (show Kd.R (Kd.int .u16) 47 w w0.heap.size (fun k_ => (P0_ k_ ∨ w.heap.size ≤ k_)) u9000_ l0 from Kd.R_mono ho0 (fun k_ hk => (.inl hk)))
  have HK := Aside0.mk (Kept.refl w (fun k_ => P0_ k_))
  have HW0 := Aside0.mk hB.size
  have HB := Aside0.mk hB
  clear hB
  have H : (laws_markNimberS.l0 k l0 a1 0) = some (r1, r2) := h
  clear h
  have H' := Aside0.mk H
  clear H
  go_enter Try.func27, Try.ntmps27
  go_wp2
  go_loopg [1, 5] k (fun kq v1 v5 w' => ∃ (x0_1 : List Int) (x1_1 : Int) (x5_1 : Int), v1 = .int .i64 x1_1 ∧ v5 = .int .i64 x5_1 ∧ Aside0 (laws_markNimberS.l0 kq x0_1 x1_1 x5_1 = some (r1, r2)) ∧ Aside0 (kq ≤ k) ∧ Aside0 (Kd.R (Kd.int .u16) 47 w' w0.heap.size (fun k_ => (P0_ k_ ∨ w.heap.size ≤ k_)) u9000_ x0_1) ∧ Aside0 (Kept w w' (fun k_ => P0_ k_)) ∧ Aside0 (Below w0.heap.size w0 w'))
  case atStart => exact ⟨(l0), (a1), (0), (by first | rfl | (simp; done) | (simp [*]; done)), (by first | rfl | (simp; done) | (simp [*]; done)), H', ⟨Nat.le_refl _⟩, ⟨by (with_reducible repeat (first | apply Kd.R_alloc | apply Kd.R_drewN | apply Kd.R_drew)); exact HO0.out⟩, ⟨by repeat (first | (with_reducible first | exact HK.out | apply Kept.alloc | apply Kept.drewN | apply Kept.drew) | exact HK.out)⟩, ⟨by repeat (first | (with_reducible first | exact HB.out | apply below_alloc | apply pw_below_drewN | apply below_drew1) | exact HB.out)⟩⟩
  case round =>
    clear H'
    try clear c2
    try clear p2
    obtain ⟨x0_1, x1_1, x5_1, rfl, rfl, HA, HK1, HO_0, HK, HB⟩ := hrel
    cases gk with
    | zero => exact absurd HA.out (by simp [laws_markNimberS.l0])
    | succ k1 =>
      have H := HA.out
      clear HA
      simp only [laws_markNimberS.l0] at H
      by_cases c3 : x5_1 < (x0_1.length : Int)
      · rw [if_pos c3] at H
        have c3b0 : decide (x5_1 < (x0_1.length : Int)) = true := decide_eq_true c3
        clear c3
        by_cases c4 : 0 ≤ x5_1
        · rw [if_pos c4] at H
          have c4b0 : decide (0 ≤ x5_1) = true := decide_eq_true c4
          clear c4
          obtain ⟨y124, hy124⟩ : ∃ y_ : List Int, y_ = (x0_1.set (x5_1 : Int).toNat (IntKind.u16.wrap (x1_1))) := ⟨_, rfl⟩
          replace H : (laws_markNimberS.l0 k1 y124 (wrap64 (x1_1 + 1)) (wrap64 (x5_1 + 1))) = some (r1, r2) := by first | (rw [hy124]; with_reducible exact H) | (have H2_ := (Option.bind_some _ _).symm.trans H; rw [hy124]; with_reducible exact H2_) | (have H2_ := (Option.bind_some _ _).symm.trans H; with_reducible exact H2_) | with_reducible exact H | (rw [hy124]; exact H) | exact H
          have Ny124 := Aside0.mk hy124
          clear hy124
          have H' := Aside0.mk H
          clear H
          obtain ⟨Ao6, co6, eo6⟩ := Kd.R_slice HO_0.out
          subst eo6
          have p5 : 0 ≤ (x5_1 : Int) := of_decide_eq_true (by first | (with_reducible assumption) | assumption)
          have q5 : (x5_1 : Int) < ((x0_1.length : Int) : Int) := of_decide_eq_true (by first | (with_reducible assumption) | assumption)
          obtain ⟨go5, co5, eo5, gb5, gl5, cl5, HG5⟩ := Kd.R_form HO_0.out (by omega)
          (first | cases eo5 | (injection eo5 with ea_ en_ ec_; (first | subst ea_ | (injection ea_ with ea_; subst ea_)); subst ec_; clear en_))
          have GB5 := Aside0.mk gb5
          have GG5 := Aside0.mk HG5
          clear gb5 gl5 HG5
          have HMgo5 := Aside0.mk (show (P0_ go5 ∨ w.heap.size ≤ go5) from (HO_0.out.1 _ rfl))
          obtain ⟨hx5_0, hf5_0⟩ := Kd.R_celln 0 HO_0.out (x5_1 : Int) p5 q5
          replace p5 := eq_true p5
          replace q5 := eq_true q5
          have HP7 := Kd.R_putg HO_0.out (x5_1 : Int) (IntKind.u16.wrap (x1_1))
          go_wp2_with (first | ((with_reducible refine gate_store (t := 47) (p := 16) rfl ?_); refine store_event (t := 47) (p := 16) (v := ?vo_w8) (w1 := (wr.setCell ⟨go5, (x5_1 : Int).toNat, none⟩ (.int .u16 (IntKind.u16.wrap (x1_1))))) ?hg ?ho ?hn ?hr ?_; (case ho => rfl); (case hg => rfl); (case hn => rfl); (case hr => first | (go_simp; done) | (go_simp; rfl)); intro w8 hw; have hg : wr.grownBy w8 (some go5) := (by rw [hw]; exact HP7.2); have hp_ : Kd.R (Kd.int .u16) 47 w8 w0.heap.size (fun k_ => (P0_ k_ ∨ w.heap.size ≤ k_)) (.slice (some ⟨go5, 0, none⟩) x0_1.length co6) y124 := (by rw [hw, Ny124.out]; exact HP7.1); clear HP7; have n0_ := Aside0.mk (hp_); have n1_ := Aside0.mk ((by rw [hw]; exact below_set (HB.out) GB5.out : Below w0.heap.size w0 w8)); have n2_ := Aside0.mk (Kept.of_grown (S := (fun k_ => P0_ k_)) hg (by repeat (first | (with_reducible first | exact HK.out | apply Kept.alloc | apply Kept.drewN | apply Kept.drew) | exact HK.out)) (fun k_ e_ => (HO_0.out.1 k_ e_))); clear HO_0; clear HB; clear HK; have HO_0 := n0_; have HB := n1_; have HK := n2_; clear n0_ n1_ n2_; clear hg hw hp_))
          go_roundg k1
          case measure => have := HK1.out; omega
          case rel => exact ⟨(y124), (wrap64 (x1_1 + 1)), (wrap64 (x5_1 + 1)), (by first | rfl | (simp; done) | (simp [*]; done)), (by first | rfl | (simp; done) | (simp [*]; done)), H', ⟨by have := HK1.out; omega⟩, ⟨by (with_reducible repeat (first | apply Kd.R_alloc | apply Kd.R_drewN | apply Kd.R_drew)); exact HO_0.out⟩, ⟨by repeat (first | (with_reducible first | exact HK.out | apply Kept.alloc | apply Kept.drewN | apply Kept.drew) | exact HK.out)⟩, ⟨by repeat (first | (with_reducible first | exact HB.out | apply below_alloc | apply pw_below_drewN | apply below_drew1) | exact HB.out)⟩⟩
        · rw [if_neg c4] at H
          exact absurd H (by simp)
      · rw [if_neg c3] at H
        have c3b0 : decide (x5_1 < (x0_1.length : Int)) = false := decide_eq_false c3
        clear c3
        simp only [Option.some.injEq, Prod.mk.injEq] at H
        obtain ⟨rfl, rfl⟩ := H
        obtain ⟨Ao9, co9, eo9⟩ := Kd.R_slice HO_0.out
        subst eo9
        go_wp2
        go_ret
        exact ⟨by first | rfl | (simp [errW_none, errW_some] <;> rfl) | (simp [*, errW_none, errW_some] <;> rfl), by (with_reducible repeat (first | apply Kd.R_alloc | apply Kd.R_drewN | apply Kd.R_drew)); exact HO_0.out, by repeat (first | (with_reducible first | exact HB.out | apply below_alloc | apply pw_below_drewN | apply below_drew1) | exact HB.out), by repeat (first | (with_reducible first | exact HK.out | apply Kept.alloc | apply Kept.drewN | apply Kept.drew) | exact HK.out)⟩

/-! ### laws_heldNimberS: function 28 -/
def laws_heldNimberS.l0 : Nat → List Int → Int → Int → Option (Int)
  | 0, _, _, _ => none
  | k + 1, x0, x1, x5 => if x5 < (x0.length : Int) then (if 0 ≤ x5 then (if (rd x0 x5) = (IntKind.u16.wrap (x1)) then (laws_heldNimberS.l0 k x0 (wrap64 (x1 + 1)) (wrap64 (x5 + 1))) else (some (-1))) else (none)) else (some x1)
def laws_heldNimberS.f (k : Nat) (l0 : List Int) (a1 : Int) : Option (Int) := laws_heldNimberS.l0 k l0 a1 0
theorem laws_heldNimberS.mono_l : ∀ k, (∀ y0 y1 y2, LeO (laws_heldNimberS.l0 k y0 y1 y2) (laws_heldNimberS.l0 (k + 1) y0 y1 y2))
  | 0 => fun _ _ _ r h => by simp [laws_heldNimberS.l0] at h
  | k + 1 => by
    have ih0 := laws_heldNimberS.mono_l k
    · intro y0 y1 y2
      unfold laws_heldNimberS.l0
      repeat' first
      | (with_reducible exact ih0 _ _ _)
      | (with_reducible exact LeO.refl _)
      | (with_reducible exact LeO.none _)
      | (with_reducible refine LeO.ite ?_ ?_)
      | (with_reducible refine LeO.bind ?_ (fun _ => ?_))
      | exact ih0 _ _ _
      | exact LeO.none _
      | refine LeO.ite ?_ ?_
      | refine LeO.bind ?_ (fun _ => ?_)
theorem laws_heldNimberS.mono : ∀ a0 a1 k, LeO (laws_heldNimberS.f k a0 a1) (laws_heldNimberS.f (k + 1) a0 a1) := by
  intro a0 a1 k
  have ih0 := laws_heldNimberS.mono_l k
  unfold laws_heldNimberS.f
  repeat' first
      | (with_reducible exact ih0 _ _ _)
      | (with_reducible exact LeO.refl _)
      | (with_reducible exact LeO.none _)
      | (with_reducible refine LeO.ite ?_ ?_)
      | (with_reducible refine LeO.bind ?_ (fun _ => ?_))
      | exact ih0 _ _ _
      | exact LeO.none _
      | refine LeO.ite ?_ ?_
      | refine LeO.bind ?_ (fun _ => ?_)
set_option maxHeartbeats 8000000 in
set_option maxRecDepth 100000 in
theorem laws_heldNimberS.calls (k : Nat) (A0 : Option Addr) (c0 : Nat) (l0 : List Int) (a1 : Int) (r : Int) (w : World) (hr0 : Kd.C (Kd.int .u16) w A0 l0.length l0) (hc0 : l0.length ≤ c0) (h : laws_heldNimberS.f k l0 a1 = some r) :
    Calls Try.prog 28 #[.slice A0 l0.length c0, .int .i64 a1] w fun e w' => e = .returned (.int .i64 r) ∧ Drawn0 w w' := by
  have HR0 := Aside0.mk hr0
  have HC0 := Aside0.mk hc0
  clear hr0 hc0
  have H : (laws_heldNimberS.l0 k l0 a1 0) = some r := h
  clear h
  have H' := Aside0.mk H
  clear H
  go_enter Try.func28, Try.ntmps28
  go_wp2
  go_loopg [1, 5] k (fun kq v1 v5 w' => ∃ (x1_1 : Int) (x5_1 : Int), v1 = .int .i64 x1_1 ∧ v5 = .int .i64 x5_1 ∧ Aside0 (laws_heldNimberS.l0 kq l0 x1_1 x5_1 = some r) ∧ Aside0 (kq ≤ k) ∧ Drawn0 w w')
  case atStart => exact ⟨(a1), (0), (by first | rfl | (simp; done) | (simp [*]; done)), (by first | rfl | (simp; done) | (simp [*]; done)), H', ⟨Nat.le_refl _⟩, by repeat (first | exact Drawn0.refl _ | apply Drawn0.step)⟩
  case round =>
    clear H'
    try clear c2
    try clear p2
    obtain ⟨x1_1, x5_1, rfl, rfl, HA, HK1, ⟨m1, rfl⟩⟩ := hrel
    cases gk with
    | zero => exact absurd HA.out (by simp [laws_heldNimberS.l0])
    | succ k1 =>
      have H := HA.out
      clear HA
      simp only [laws_heldNimberS.l0] at H
      by_cases c3 : x5_1 < (l0.length : Int)
      · rw [if_pos c3] at H
        have c3b0 : decide (x5_1 < (l0.length : Int)) = true := decide_eq_true c3
        clear c3
        by_cases c4 : 0 ≤ x5_1
        · rw [if_pos c4] at H
          have c4b0 : decide (0 ≤ x5_1) = true := decide_eq_true c4
          clear c4
          by_cases c5 : (rd l0 x5_1) = (IntKind.u16.wrap (x1_1))
          · rw [if_pos c5] at H
            have c5b0 : ((rd l0 x5_1) == (IntKind.u16.wrap (x1_1))) = true := beq_iff_eq.mpr c5
            have c5b1 : ((rd l0 x5_1) != (IntKind.u16.wrap (x1_1))) = false := bne_eq_false_iff_eq.mpr c5
            clear c5
            have H' := Aside0.mk H
            clear H
            have p125 : 0 ≤ (x5_1 : Int) := of_decide_eq_true (by first | (with_reducible assumption) | assumption)
            have q125 : x5_1 < (l0.length : Int) := of_decide_eq_true (by first | (with_reducible assumption) | assumption)
            obtain ⟨ad125, e125, hx125_0⟩ := Kd.at_int HR0.out x5_1 p125 q125
            cases e125
            replace p125 := eq_true p125
            replace q125 := eq_true q125
            go_wp2
            go_roundg k1
            case measure => have := HK1.out; omega
            case rel => exact ⟨(wrap64 (x1_1 + 1)), (wrap64 (x5_1 + 1)), (by first | rfl | (simp; done) | (simp [*]; done)), (by first | rfl | (simp; done) | (simp [*]; done)), H', ⟨by have := HK1.out; omega⟩, by repeat (first | exact Drawn0.refl _ | apply Drawn0.step)⟩
          · rw [if_neg c5] at H
            have c5b0 : ((rd l0 x5_1) == (IntKind.u16.wrap (x1_1))) = false := beq_eq_false_iff_ne.mpr c5
            have c5b1 : ((rd l0 x5_1) != (IntKind.u16.wrap (x1_1))) = true := bne_iff_ne.mpr c5
            obtain rfl := Option.some.inj H
            have p125 : 0 ≤ (x5_1 : Int) := of_decide_eq_true (by first | (with_reducible assumption) | assumption)
            have q125 : x5_1 < (l0.length : Int) := of_decide_eq_true (by first | (with_reducible assumption) | assumption)
            obtain ⟨ad125, e125, hx125_0⟩ := Kd.at_int HR0.out x5_1 p125 q125
            cases e125
            replace p125 := eq_true p125
            replace q125 := eq_true q125
            go_wp2
            go_ret
            exact ⟨by first | rfl | (simp; done) | (simp [*]; done), by repeat (first | exact Drawn0.refl _ | apply Drawn0.step)⟩
        · rw [if_neg c4] at H
          exact absurd H (by simp)
      · rw [if_neg c3] at H
        have c3b0 : decide (x5_1 < (l0.length : Int)) = false := decide_eq_false c3
        clear c3
        obtain rfl := Option.some.inj H
        go_wp2
        go_ret
        exact ⟨by first | rfl | (simp; done) | (simp [*]; done), by repeat (first | exact Drawn0.refl _ | apply Drawn0.step)⟩

/-! ### spec_l00In: function 59 -/
def spec_l00In.f (a0 : Int) (a1 : Int) (a2 : Int) : Option (Bool) := if a0 ≥ a1 then (some (decide (a0 ≤ a2))) else (some false)
set_option maxHeartbeats 8000000 in
set_option maxRecDepth 100000 in
theorem spec_l00In.calls (a0 : Int) (a1 : Int) (a2 : Int) (r : Bool) (w : World) (h : spec_l00In.f a0 a1 a2 = some r) :
    Calls Try.prog 59 #[.int .i64 a0, .int .i64 a1, .int .i64 a2] w fun e w' => e = .returned (.bool r) ∧ Drawn0 w w' := by
  have H : (if a0 ≥ a1 then (some (decide (a0 ≤ a2))) else (some false)) = some r := h
  clear h
  by_cases c4 : a0 ≥ a1
  · rw [if_pos c4] at H
    have c4b0 : decide (a1 ≤ a0) = true := decide_eq_true c4
    clear c4
    obtain rfl := Option.some.inj H
    go_enter Try.func59, Try.ntmps59
    go_wp2
    go_ret
    exact ⟨by first | rfl | (simp; done) | (simp [*]; done), by repeat (first | exact Drawn0.refl _ | apply Drawn0.step)⟩
  · rw [if_neg c4] at H
    have c4b0 : decide (a1 ≤ a0) = false := decide_eq_false c4
    clear c4
    obtain rfl := Option.some.inj H
    go_enter Try.func59, Try.ntmps59
    go_wp2
    go_ret
    exact ⟨by first | rfl | (simp; done) | (simp [*]; done), by repeat (first | exact Drawn0.refl _ | apply Drawn0.step)⟩

/-! ### spec_l03Ok: function 55 -/
mutual
def spec_l03Ok.l0 : Nat → List (List Int) → Int → Option (Bool)
  | 0, _, _ => none
  | k + 1, x0, x3 => if x3 < (x0.length : Int) then (spec_l03Ok.l1 k x0 x3 (-1) 0) else ((spec_l00In.f (x0.length : Int) 1 60).bind fun t126 => (some t126))
def spec_l03Ok.l1 : Nat → List (List Int) → Int → Int → Int → Option (Bool)
  | 0, _, _, _, _ => none
  | k + 1, x0, x3, x4, x5 => if 0 ≤ x3 then (if x3 < (x0.length : Int) then (if x5 < ((rd_L1 x0 x3).length : Int) then (if 0 ≤ x5 then ((spec_l00In.f (wrap64 (rd (rd_L1 x0 x3) x5)) (wrap64 (x4 + 1)) (wrap64 (x3 - 1))).bind fun t130 => (if t130 = true then (spec_l03Ok.l1 k x0 x3 (wrap64 (rd (rd_L1 x0 x3) x5)) (wrap64 (x5 + 1))) else (some false))) else (none)) else (spec_l03Ok.l0 k x0 (wrap64 (x3 + 1)))) else (none)) else (none)
end
def spec_l03Ok.f (k : Nat) (l0 : List (List Int)) : Option (Bool) := spec_l03Ok.l0 k l0 0
theorem spec_l03Ok.mono_l : ∀ k, (∀ y0 y1, LeO (spec_l03Ok.l0 k y0 y1) (spec_l03Ok.l0 (k + 1) y0 y1)) ∧ (∀ y0 y1 y2 y3, LeO (spec_l03Ok.l1 k y0 y1 y2 y3) (spec_l03Ok.l1 (k + 1) y0 y1 y2 y3))
  | 0 => ⟨fun _ _ r h => by simp [spec_l03Ok.l0] at h, fun _ _ _ _ r h => by simp [spec_l03Ok.l1] at h⟩
  | k + 1 => by
    obtain ⟨ih0, ih1⟩ := spec_l03Ok.mono_l k
    refine ⟨?_, ?_⟩
    · intro y0 y1
      unfold spec_l03Ok.l0
      repeat' first
      | (with_reducible exact ih0 _ _)
      | (with_reducible exact ih1 _ _ _ _)
      | (with_reducible exact LeO.refl _)
      | (with_reducible exact LeO.none _)
      | (with_reducible refine LeO.ite ?_ ?_)
      | (with_reducible refine LeO.bind ?_ (fun _ => ?_))
      | exact ih0 _ _
      | exact ih1 _ _ _ _
      | exact LeO.none _
      | refine LeO.ite ?_ ?_
      | refine LeO.bind ?_ (fun _ => ?_)
    · intro y0 y1 y2 y3
      unfold spec_l03Ok.l1
      repeat' first
      | (with_reducible exact ih0 _ _)
      | (with_reducible exact ih1 _ _ _ _)
      | (with_reducible exact LeO.refl _)
      | (with_reducible exact LeO.none _)
      | (with_reducible refine LeO.ite ?_ ?_)
      | (with_reducible refine LeO.bind ?_ (fun _ => ?_))
      | exact ih0 _ _
      | exact ih1 _ _ _ _
      | exact LeO.none _
      | refine LeO.ite ?_ ?_
      | refine LeO.bind ?_ (fun _ => ?_)
theorem spec_l03Ok.mono : ∀ a0 k, LeO (spec_l03Ok.f k a0) (spec_l03Ok.f (k + 1) a0) := by
  intro a0 k
  obtain ⟨ih0, ih1⟩ := spec_l03Ok.mono_l k
  unfold spec_l03Ok.f
  repeat' first
      | (with_reducible exact ih0 _ _)
      | (with_reducible exact ih1 _ _ _ _)
      | (with_reducible exact LeO.refl _)
      | (with_reducible exact LeO.none _)
      | (with_reducible refine LeO.ite ?_ ?_)
      | (with_reducible refine LeO.bind ?_ (fun _ => ?_))
      | exact ih0 _ _
      | exact ih1 _ _ _ _
      | exact LeO.none _
      | refine LeO.ite ?_ ?_
      | refine LeO.bind ?_ (fun _ => ?_)
set_option maxHeartbeats 8000000 in
set_option maxRecDepth 100000 in
theorem spec_l03Ok.calls (k : Nat) (A0 : Option Addr) (c0 : Nat) (l0 : List (List Int)) (r : Bool) (w : World) (hr0 : Kd.C (Kd.slice 72 (Kd.int .i8)) w A0 l0.length l0) (hc0 : l0.length ≤ c0) (h : spec_l03Ok.f k l0 = some r) :
    Calls Try.prog 55 #[.slice A0 l0.length c0] w fun e w' => e = .returned (.bool r) ∧ Drawn0 w w' := by
  have HR0 := Aside0.mk hr0
  have HC0 := Aside0.mk hc0
  clear hr0 hc0
  have H : (spec_l03Ok.l0 k l0 0) = some r := h
  clear h
  have H' := Aside0.mk H
  clear H
  go_enter Try.func55, Try.ntmps55
  go_wp2
  go_loopg [3] k (fun kq v3 w' => ∃ (x3_1 : Int), v3 = .int .i64 x3_1 ∧ Aside0 (spec_l03Ok.l0 kq l0 x3_1 = some r) ∧ Aside0 (kq ≤ k) ∧ Drawn0 w w')
  case atStart => exact ⟨(0), (by first | rfl | (simp; done) | (simp [*]; done)), H', ⟨Nat.le_refl _⟩, by repeat (first | exact Drawn0.refl _ | apply Drawn0.step)⟩
  case round =>
    clear H'
    obtain ⟨x3_1, rfl, HA, HK1, ⟨m1, rfl⟩⟩ := hrel
    cases gk with
    | zero => exact absurd HA.out (by simp [spec_l03Ok.l0])
    | succ k1 =>
      have H := HA.out
      clear HA
      simp only [spec_l03Ok.l0] at H
      by_cases c2 : x3_1 < (l0.length : Int)
      · rw [if_pos c2] at H
        have c2b0 : decide (x3_1 < (l0.length : Int)) = true := decide_eq_true c2
        clear c2
        have H' := Aside0.mk H
        clear H
        go_wp2
        go_loopg [4, 5] k1 (fun kq v4 v5 w' => ∃ (x4_2 : Int) (x5_2 : Int), v4 = .int .i64 x4_2 ∧ v5 = .int .i64 x5_2 ∧ Aside0 (spec_l03Ok.l1 kq l0 x3_1 x4_2 x5_2 = some r) ∧ Aside0 (kq ≤ k1) ∧ Drawn0 w w')
        case atStart => exact ⟨((-1)), (0), (by first | rfl | (simp; done) | (simp [*]; done)), (by first | rfl | (simp; done) | (simp [*]; done)), H', ⟨Nat.le_refl _⟩, by repeat (first | exact Drawn0.refl _ | apply Drawn0.step)⟩
        case round =>
          clear H'
          try clear c2
          try clear c2b0
          try clear p2
          obtain ⟨x4_2, x5_2, rfl, rfl, HA, HK2, ⟨m2, rfl⟩⟩ := hrel
          cases gk with
          | zero => exact absurd HA.out (by simp [spec_l03Ok.l1])
          | succ k2 =>
            have H := HA.out
            clear HA
            simp only [spec_l03Ok.l1] at H
            by_cases c3 : 0 ≤ x3_1
            · rw [if_pos c3] at H
              have c3b0 : decide (0 ≤ x3_1) = true := decide_eq_true c3
              clear c3
              by_cases c4 : x3_1 < (l0.length : Int)
              · rw [if_pos c4] at H
                have c4b0 : decide (x3_1 < (l0.length : Int)) = true := decide_eq_true c4
                clear c4
                by_cases c5 : x5_2 < ((rd_L1 l0 x3_1).length : Int)
                · rw [if_pos c5] at H
                  have c5b0 : decide (x5_2 < ((rd_L1 l0 x3_1).length : Int)) = true := decide_eq_true c5
                  clear c5
                  by_cases c6 : 0 ≤ x5_2
                  · rw [if_pos c6] at H
                    have c6b0 : decide (0 ≤ x5_2) = true := decide_eq_true c6
                    clear c6
                    replace H := Option.bind_eq_some_iff.mp H
                    obtain ⟨t130, A70, H⟩ := H
                    replace H : (if t130 = true then (spec_l03Ok.l1 k2 l0 x3_1 (wrap64 (rd (rd_L1 l0 x3_1) x5_2)) (wrap64 (x5_2 + 1))) else (some false)) = some r := H
                    have A7 := Aside0.mk A70
                    clear A70
                    by_cases c8 : t130 = true
                    · subst c8
                      have H1 : (spec_l03Ok.l1 k2 l0 x3_1 (wrap64 (rd (rd_L1 l0 x3_1) x5_2)) (wrap64 (x5_2 + 1))) = some r := by rw [if_pos rfl] at H; exact H
                      clear H
                      have H := H1
                      clear H1
                      have H' := Aside0.mk H
                      clear H
                      have p127 : 0 ≤ (x3_1 : Int) := of_decide_eq_true (by first | (with_reducible assumption) | assumption)
                      have q127 : x3_1 < (l0.length : Int) := of_decide_eq_true (by first | (with_reducible assumption) | assumption)
                      obtain ⟨ad127, A127_0, c127_0, e127, hx127_0, hl127_0, hi127_0⟩ := at_L1 HR0.out x3_1 p127 q127
                      cases e127
                      have HR127_0 := Aside0.mk hi127_0
                      have HC127_0 := Aside0.mk hl127_0
                      clear hi127_0 hl127_0
                      replace p127 := eq_true p127
                      replace q127 := eq_true q127
                      have p128 : 0 ≤ (x3_1 : Int) := of_decide_eq_true (by first | (with_reducible assumption) | assumption)
                      have q128 : x3_1 < (l0.length : Int) := of_decide_eq_true (by first | (with_reducible assumption) | assumption)
                      obtain ⟨ad128, A128_0, c128_0, e128, hx128_0, hl128_0, hi128_0⟩ := at_L1 HR0.out x3_1 p128 q128
                      obtain rfl : ad127 = ad128 := (by injection e128)
                      have HR128_0 := Aside0.mk hi128_0
                      have HC128_0 := Aside0.mk hl128_0
                      clear hi128_0 hl128_0
                      replace p128 := eq_true p128
                      replace q128 := eq_true q128
                      have ea_ := Option.some.inj (hx127_0.symm.trans hx128_0)
                      injection ea_ with ea_ en_ ec_
                      subst ea_
                      subst ec_
                      clear en_
                      have p129 : 0 ≤ (x5_2 : Int) := of_decide_eq_true (by first | (with_reducible assumption) | assumption)
                      have q129 : x5_2 < ((rd_L1 l0 x3_1).length : Int) := of_decide_eq_true (by first | (with_reducible assumption) | assumption)
                      obtain ⟨ad129, e129, hx129_0⟩ := Kd.at_int HR128_0.out x5_2 p129 q129
                      cases e129
                      replace p129 := eq_true p129
                      replace q129 := eq_true q129
                      go_wp2_with (first | ((with_reducible refine gate_callee (f := 59) rfl ?_); refine goesL_ (some 33) rfl rfl Try.func59 (by kernel_rfl) rfl #[.int .i64 (wrap64 (rd (rd_L1 l0 x3_1) x5_2)), .int .i64 (wrap64 (x4_2 + 1)), .int .i64 (wrap64 (x3_1 - 1))] rfl (by (try simp only [List.map_toArray, List.map_cons, List.map_nil]); first | done | rfl | (simp only [List.length_drop, List.length_take]; rfl)) ?_; (with_reducible refine (spec_l00In.calls (wrap64 (rd (rd_L1 l0 x3_1) x5_2)) (wrap64 (x4_2 + 1)) (wrap64 (x3_1 - 1)) true _ A7.out).mono ?_); rintro e w' ⟨rfl, ⟨nd, rfl⟩⟩; refine ⟨_, rfl, ?_⟩; have p131 : 0 ≤ (x3_1 : Int) := of_decide_eq_true (by first | (with_reducible assumption) | assumption); have q131 : x3_1 < (l0.length : Int) := of_decide_eq_true (by first | (with_reducible assumption) | assumption); obtain ⟨ad131, A131_0, c131_0, e131, hx131_0, hl131_0, hi131_0⟩ := at_L1 HR0.out x3_1 p131 q131; obtain rfl : ad127 = ad131 := (by injection e131); have HR131_0 := Aside0.mk hi131_0; have HC131_0 := Aside0.mk hl131_0; clear hi131_0 hl131_0; replace p131 := eq_true p131; replace q131 := eq_true q131; have ea_ := Option.some.inj (hx127_0.symm.trans hx131_0); injection ea_ with ea_ en_ ec_; subst ea_; subst ec_; clear en_; have p132 : 0 ≤ (x5_2 : Int) := of_decide_eq_true (by first | (with_reducible assumption) | assumption); have q132 : x5_2 < ((rd_L1 l0 x3_1).length : Int) := of_decide_eq_true (by first | (with_reducible assumption) | assumption); obtain ⟨ad132, e132, hx132_0⟩ := Kd.at_int HR131_0.out x5_2 p132 q132; cases e132; replace p132 := eq_true p132; replace q132 := eq_true q132))
                      go_roundg k2
                      case measure => have := HK1.out; have := HK2.out; omega
                      case rel => exact ⟨(wrap64 (rd (rd_L1 l0 x3_1) x5_2)), (wrap64 (x5_2 + 1)), (by first | rfl | (simp; done) | (simp [*]; done)), (by first | rfl | (simp; done) | (simp [*]; done)), H', ⟨by have := HK1.out; have := HK2.out; omega⟩, by repeat (first | exact Drawn0.refl _ | apply Drawn0.step)⟩
                    · replace c8 := Bool.eq_false_iff.mpr c8
                      subst c8
                      have H1 : (some false) = some r := by rw [if_neg (show ¬ (false = true) by decide)] at H; exact H
                      clear H
                      have H := H1
                      clear H1
                      obtain rfl := Option.some.inj H
                      have p127 : 0 ≤ (x3_1 : Int) := of_decide_eq_true (by first | (with_reducible assumption) | assumption)
                      have q127 : x3_1 < (l0.length : Int) := of_decide_eq_true (by first | (with_reducible assumption) | assumption)
                      obtain ⟨ad127, A127_0, c127_0, e127, hx127_0, hl127_0, hi127_0⟩ := at_L1 HR0.out x3_1 p127 q127
                      cases e127
                      have HR127_0 := Aside0.mk hi127_0
                      have HC127_0 := Aside0.mk hl127_0
                      clear hi127_0 hl127_0
                      replace p127 := eq_true p127
                      replace q127 := eq_true q127
                      have p128 : 0 ≤ (x3_1 : Int) := of_decide_eq_true (by first | (with_reducible assumption) | assumption)
                      have q128 : x3_1 < (l0.length : Int) := of_decide_eq_true (by first | (with_reducible assumption) | assumption)
                      obtain ⟨ad128, A128_0, c128_0, e128, hx128_0, hl128_0, hi128_0⟩ := at_L1 HR0.out x3_1 p128 q128
                      obtain rfl : ad127 = ad128 := (by injection e128)
                      have HR128_0 := Aside0.mk hi128_0
                      have HC128_0 := Aside0.mk hl128_0
                      clear hi128_0 hl128_0
                      replace p128 := eq_true p128
                      replace q128 := eq_true q128
                      have ea_ := Option.some.inj (hx127_0.symm.trans hx128_0)
                      injection ea_ with ea_ en_ ec_
                      subst ea_
                      subst ec_
                      clear en_
                      have p129 : 0 ≤ (x5_2 : Int) := of_decide_eq_true (by first | (with_reducible assumption) | assumption)
                      have q129 : x5_2 < ((rd_L1 l0 x3_1).length : Int) := of_decide_eq_true (by first | (with_reducible assumption) | assumption)
                      obtain ⟨ad129, e129, hx129_0⟩ := Kd.at_int HR128_0.out x5_2 p129 q129
                      cases e129
                      replace p129 := eq_true p129
                      replace q129 := eq_true q129
                      go_wp2_with (first | ((with_reducible refine gate_callee (f := 59) rfl ?_); refine goesL_ (some 33) rfl rfl Try.func59 (by kernel_rfl) rfl #[.int .i64 (wrap64 (rd (rd_L1 l0 x3_1) x5_2)), .int .i64 (wrap64 (x4_2 + 1)), .int .i64 (wrap64 (x3_1 - 1))] rfl (by (try simp only [List.map_toArray, List.map_cons, List.map_nil]); first | done | rfl | (simp only [List.length_drop, List.length_take]; rfl)) ?_; (with_reducible refine (spec_l00In.calls (wrap64 (rd (rd_L1 l0 x3_1) x5_2)) (wrap64 (x4_2 + 1)) (wrap64 (x3_1 - 1)) false _ A7.out).mono ?_); rintro e w' ⟨rfl, ⟨nd, rfl⟩⟩; refine ⟨_, rfl, ?_⟩))
                      go_ret
                      exact ⟨by first | rfl | (simp; done) | (simp [*]; done), by repeat (first | exact Drawn0.refl _ | apply Drawn0.step)⟩
                  · rw [if_neg c6] at H
                    exact absurd H (by simp)
                · rw [if_neg c5] at H
                  have c5b0 : decide (x5_2 < ((rd_L1 l0 x3_1).length : Int)) = false := decide_eq_false c5
                  clear c5
                  have H' := Aside0.mk H
                  clear H
                  have p127 : 0 ≤ (x3_1 : Int) := of_decide_eq_true (by first | (with_reducible assumption) | assumption)
                  have q127 : x3_1 < (l0.length : Int) := of_decide_eq_true (by first | (with_reducible assumption) | assumption)
                  obtain ⟨ad127, A127_0, c127_0, e127, hx127_0, hl127_0, hi127_0⟩ := at_L1 HR0.out x3_1 p127 q127
                  cases e127
                  have HR127_0 := Aside0.mk hi127_0
                  have HC127_0 := Aside0.mk hl127_0
                  clear hi127_0 hl127_0
                  replace p127 := eq_true p127
                  replace q127 := eq_true q127
                  go_wp2
                  go_roundg k2
                  case measure => have := HK1.out; have := HK2.out; omega
                  case rel => exact ⟨(wrap64 (x3_1 + 1)), (by first | rfl | (simp; done) | (simp [*]; done)), H', ⟨by have := HK1.out; have := HK2.out; omega⟩, by repeat (first | exact Drawn0.refl _ | apply Drawn0.step)⟩
              · rw [if_neg c4] at H
                exact absurd H (by simp)
            · rw [if_neg c3] at H
              exact absurd H (by simp)
      · rw [if_neg c2] at H
        have c2b0 : decide (x3_1 < (l0.length : Int)) = false := decide_eq_false c2
        clear c2
        replace H := Option.bind_eq_some_iff.mp H
        obtain ⟨t126, A90, H⟩ := H
        replace H : (some t126) = some r := H
        have A9 := Aside0.mk A90
        clear A90
        obtain rfl := Option.some.inj H
        go_wp2_with (first | ((with_reducible refine gate_callee (f := 59) rfl ?_); refine goesL_ (some 45) rfl rfl Try.func59 (by kernel_rfl) rfl #[.int .i64 (l0.length : Int), .int .i64 1, .int .i64 60] rfl (by (try simp only [List.map_toArray, List.map_cons, List.map_nil]); first | done | rfl | (simp only [List.length_drop, List.length_take]; rfl)) ?_; (with_reducible refine (spec_l00In.calls (l0.length : Int) 1 60 t126 _ A9.out).mono ?_); rintro e w' ⟨rfl, ⟨nd, rfl⟩⟩; refine ⟨_, rfl, ?_⟩))
        go_ret
        exact ⟨by first | rfl | (simp; done) | (simp [*]; done), by repeat (first | exact Drawn0.refl _ | apply Drawn0.step)⟩

end Go.Proofs.Ytbhjkaiiebpopaa.QFnExactValuesOf
