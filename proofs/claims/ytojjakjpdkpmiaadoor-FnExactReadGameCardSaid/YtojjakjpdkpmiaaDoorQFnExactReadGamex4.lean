/- Written by the session's own program (wip/myprint.py), for the law FnExactReadGame: each function as a plain Lean function, and its contract. -/
import Derived.Test.YtojjakjpdkpmiaaDoorQFnExactReadGamex0
namespace Go.Proofs.YtojjakjpdkpmiaaDoor.QFnExactReadGame
open Go.RowKit Go.Proofs.YtojjakjpdkpmiaaDoorW.PrintWords Go.Proofs.YtojjakjpdkpmiaaDoorW.PrintLast Go.Proofs.YtojjakjpdkpmiaaDoorW.PrintMore
attribute [local go_sem] max2_int min2_int max_two min_two max_three min_three max_four min_four   -- for this text's walks alone
set_option linter.unusedVariables false
set_option linter.unusedSimpArgs false

/-! ### laws_markInt8S: function 80 -/
def laws_markInt8S.l0 : Nat → List Int → Int → Int → Option (Int × List Int)
  | 0, _, _, _ => none
  | k + 1, x0, x1, x5 => if x5 < (x0.length : Int) then (if 0 ≤ x5 then (laws_markInt8S.l0 k (x0.set (x5 : Int).toNat (IntKind.i8.wrap (x1))) (wrap64 (x1 + 1)) (wrap64 (x5 + 1))) else (none)) else (some (x1, x0))
def laws_markInt8S.f (k : Nat) (l0 : List Int) (a1 : Int) : Option (Int × List Int) := laws_markInt8S.l0 k l0 a1 0
theorem laws_markInt8S.mono_l : ∀ k, (∀ y0 y1 y2, LeO (laws_markInt8S.l0 k y0 y1 y2) (laws_markInt8S.l0 (k + 1) y0 y1 y2))
  | 0 => fun _ _ _ r h => by simp [laws_markInt8S.l0] at h
  | k + 1 => by
    have ih0 := laws_markInt8S.mono_l k
    · intro y0 y1 y2
      unfold laws_markInt8S.l0
      repeat' first
      | (with_reducible exact ih0 _ _ _)
      | (with_reducible exact LeO.refl _)
      | (with_reducible exact LeO.none _)
      | (with_reducible refine LeO.ite ?_ ?_)
      | (with_reducible refine LeO.bind ?_ (fun _ => ?_))
      | exact ih0 _ _ _
      | exact LeO.none _
      | refine LeO.ite ?_ ?_
      | refine LeO.bind ?_ (fun _ => ?_)
theorem laws_markInt8S.mono : ∀ a0 a1 k, LeO (laws_markInt8S.f k a0 a1) (laws_markInt8S.f (k + 1) a0 a1) := by
  intro a0 a1 k
  have ih0 := laws_markInt8S.mono_l k
  unfold laws_markInt8S.f
  repeat' first
      | (with_reducible exact ih0 _ _ _)
      | (with_reducible exact LeO.refl _)
      | (with_reducible exact LeO.none _)
      | (with_reducible refine LeO.ite ?_ ?_)
      | (with_reducible refine LeO.bind ?_ (fun _ => ?_))
      | exact ih0 _ _ _
      | exact LeO.none _
      | refine LeO.ite ?_ ?_
      | refine LeO.bind ?_ (fun _ => ?_)
set_option maxHeartbeats 8000000 in
set_option maxRecDepth 100000 in
theorem laws_markInt8S.calls (k : Nat) (P0_ : Nat → Prop) (u9000_ : Value) (l0 : List Int) (a1 : Int) (r1 : Int) (r2 : List Int) (w0 w : World) (hB : Below w0.heap.size w0 w) (ho0 : Kd.R (Kd.int .i8) 76 w w0.heap.size P0_ u9000_ l0) (h : laws_markInt8S.f k l0 a1 = some (r1, r2)) :
    Calls Tryd.prog 80 #[u9000_, .int .i64 a1] w fun e w' => e = .returned (.int .i64 r1) ∧ Kd.R (Kd.int .i8) 76 w' w0.heap.size (fun k_ => (P0_ k_ ∨ w.heap.size ≤ k_)) u9000_ r2 ∧ Below w0.heap.size w0 w' ∧ Kept w w' (fun k_ => P0_ k_) := by
  have HO0 := Aside0.mk (show Kd.R (Kd.int .i8) 76 w w0.heap.size (fun k_ => (P0_ k_ ∨ w.heap.size ≤ k_)) u9000_ l0 from Kd.R_mono ho0 (fun k_ hk => (.inl hk)))
  have HK := Aside0.mk (Kept.refl w (fun k_ => P0_ k_))
  have HW0 := Aside0.mk hB.size
  have HB := Aside0.mk hB
  clear hB
  have H : (laws_markInt8S.l0 k l0 a1 0) = some (r1, r2) := h
  clear h
  have H' := Aside0.mk H
  clear H
  go_enter Tryd.func80, Tryd.ntmps80
  go_wp2
  go_loopg [1, 5] k (fun kq v1 v5 w' => ∃ (x0_1 : List Int) (x1_1 : Int) (x5_1 : Int), v1 = .int .i64 x1_1 ∧ v5 = .int .i64 x5_1 ∧ Aside0 (laws_markInt8S.l0 kq x0_1 x1_1 x5_1 = some (r1, r2)) ∧ Aside0 (kq ≤ k) ∧ Aside0 (Kd.R (Kd.int .i8) 76 w' w0.heap.size (fun k_ => (P0_ k_ ∨ w.heap.size ≤ k_)) u9000_ x0_1) ∧ Aside0 (Kept w w' (fun k_ => P0_ k_)) ∧ Aside0 (Below w0.heap.size w0 w'))
  case atStart => exact ⟨(l0), (a1), (0), (by first | rfl | (simp; done) | (simp [*]; done)), (by first | rfl | (simp; done) | (simp [*]; done)), H', ⟨Nat.le_refl _⟩, ⟨by (with_reducible repeat (first | apply Kd.R_alloc | apply Kd.R_drewN | apply Kd.R_drew)); exact HO0.out⟩, ⟨by repeat (first | (with_reducible first | exact HK.out | apply Kept.alloc | apply Kept.drewN | apply Kept.drew) | exact HK.out)⟩, ⟨by repeat (first | (with_reducible first | exact HB.out | apply below_alloc | apply pw_below_drewN | apply below_drew1) | exact HB.out)⟩⟩
  case round =>
    clear H'
    try clear p2
    obtain ⟨x0_1, x1_1, x5_1, rfl, rfl, HA, HK1, HO_0, HK, HB⟩ := hrel
    cases gk with
    | zero => exact absurd HA.out (by simp [laws_markInt8S.l0])
    | succ k1 =>
      have H := HA.out
      clear HA
      simp only [laws_markInt8S.l0] at H
      by_cases c3 : x5_1 < (x0_1.length : Int)
      · rw [if_pos c3] at H
        have c3b0 : decide (x5_1 < (x0_1.length : Int)) = true := decide_eq_true c3
        clear c3
        by_cases c4 : 0 ≤ x5_1
        · rw [if_pos c4] at H
          have c4b0 : decide (0 ≤ x5_1) = true := decide_eq_true c4
          clear c4
          obtain ⟨y189, hy189⟩ : ∃ y_ : List Int, y_ = (x0_1.set (x5_1 : Int).toNat (IntKind.i8.wrap (x1_1))) := ⟨_, rfl⟩
          replace H : (laws_markInt8S.l0 k1 y189 (wrap64 (x1_1 + 1)) (wrap64 (x5_1 + 1))) = some (r1, r2) := by first | (rw [hy189]; with_reducible exact H) | (have H2_ := (Option.bind_some _ _).symm.trans H; rw [hy189]; with_reducible exact H2_) | (have H2_ := (Option.bind_some _ _).symm.trans H; with_reducible exact H2_) | with_reducible exact H | (rw [hy189]; exact H) | exact H
          have Ny189 := Aside0.mk hy189
          clear hy189
          have H' := Aside0.mk H
          clear H
          obtain ⟨Ao6, co6, eo6⟩ := Kd.R_slice HO_0.out
          subst eo6
          have p5 : 0 ≤ (x5_1 : Int) := of_decide_eq_true (by first | (with_reducible assumption) | assumption)
          have q5 : (x5_1 : Int) < ((x0_1.length : Int) : Int) := of_decide_eq_true (by first | (with_reducible assumption) | assumption)
          obtain ⟨go5, co5, eo5, gb5, gl5, cl5, HG5⟩ := Kd.R_form HO_0.out (by omega)
          (first | cases eo5 | (injection eo5 with ea_ en_ ec_; (first | subst ea_ | (injection ea_ with ea_; subst ea_)); subst ec_; clear en_))
          have GB5 := Aside0.mk gb5
          have GG5 := Aside0.mk HG5
          clear gb5 gl5 HG5
          have HMgo5 := Aside0.mk (show (P0_ go5 ∨ w.heap.size ≤ go5) from (HO_0.out.1 _ rfl))
          obtain ⟨hx5_0, hf5_0⟩ := Kd.R_celln 0 HO_0.out (x5_1 : Int) p5 q5
          replace p5 := eq_true p5
          replace q5 := eq_true q5
          have HP7 := Kd.R_putg HO_0.out (x5_1 : Int) (IntKind.i8.wrap (x1_1))
          go_wp2_with (first | ((with_reducible refine gate_store (t := 76) (p := 16) rfl ?_); refine store_event (t := 76) (p := 16) (v := ?vo_w8) (w1 := (wr.setCell ⟨go5, (x5_1 : Int).toNat, none⟩ (.int .i8 (IntKind.i8.wrap (x1_1))))) ?hg ?ho ?hn ?hr ?_; (case ho => rfl); (case hg => rfl); (case hn => rfl); (case hr => first | (go_simp; done) | (go_simp; rfl)); intro w8 hw; have hg : wr.grownBy w8 (some go5) := (by rw [hw]; exact HP7.2); have hp_ : Kd.R (Kd.int .i8) 76 w8 w0.heap.size (fun k_ => (P0_ k_ ∨ w.heap.size ≤ k_)) (.slice (some ⟨go5, 0, none⟩) x0_1.length co6) y189 := (by rw [hw, Ny189.out]; exact HP7.1); clear HP7; have n0_ := Aside0.mk (hp_); have n1_ := Aside0.mk ((by rw [hw]; exact below_set (HB.out) GB5.out : Below w0.heap.size w0 w8)); have n2_ := Aside0.mk (Kept.of_grown (S := (fun k_ => P0_ k_)) hg (by repeat (first | (with_reducible first | exact HK.out | apply Kept.alloc | apply Kept.drewN | apply Kept.drew) | exact HK.out)) (fun k_ e_ => (HO_0.out.1 k_ e_))); clear HO_0; clear HB; clear HK; have HO_0 := n0_; have HB := n1_; have HK := n2_; clear n0_ n1_ n2_; clear hg hw hp_))
          go_roundg k1
          case measure => have := HK1.out; omega
          case rel => exact ⟨(y189), (wrap64 (x1_1 + 1)), (wrap64 (x5_1 + 1)), (by first | rfl | (simp; done) | (simp [*]; done)), (by first | rfl | (simp; done) | (simp [*]; done)), H', ⟨by have := HK1.out; omega⟩, ⟨by (with_reducible repeat (first | apply Kd.R_alloc | apply Kd.R_drewN | apply Kd.R_drew)); exact HO_0.out⟩, ⟨by repeat (first | (with_reducible first | exact HK.out | apply Kept.alloc | apply Kept.drewN | apply Kept.drew) | exact HK.out)⟩, ⟨by repeat (first | (with_reducible first | exact HB.out | apply below_alloc | apply pw_below_drewN | apply below_drew1) | exact HB.out)⟩⟩
        · rw [if_neg c4] at H
          exact absurd H (by simp)
      · rw [if_neg c3] at H
        have c3b0 : decide (x5_1 < (x0_1.length : Int)) = false := decide_eq_false c3
        clear c3
        simp only [Option.some.injEq, Prod.mk.injEq] at H
        obtain ⟨rfl, rfl⟩ := H
        obtain ⟨Ao9, co9, eo9⟩ := Kd.R_slice HO_0.out
        subst eo9
        go_wp2
        go_ret
        exact ⟨by first | rfl | (simp [errW_none, errW_some] <;> rfl) | (simp [*, errW_none, errW_some] <;> rfl), by (with_reducible repeat (first | apply Kd.R_alloc | apply Kd.R_drewN | apply Kd.R_drew)); exact HO_0.out, by repeat (first | (with_reducible first | exact HB.out | apply below_alloc | apply pw_below_drewN | apply below_drew1) | exact HB.out), by repeat (first | (with_reducible first | exact HK.out | apply Kept.alloc | apply Kept.drewN | apply Kept.drew) | exact HK.out)⟩

/-! ### laws_markGame: function 44 -/
def markRows (k : Nat) : List (List Int) → Int → Option (Int × List (List Int))
  | [], a => some (a, [])
  | x :: xs, a => (laws_markInt8S.f k x a).bind fun p => (markRows k xs p.1).bind fun q => some (q.1, p.2 :: q.2)
theorem markRows_cons {k : Nat} {x : List Int} {xs : List (List Int)} {a r : Int} {R : List (List Int)} (h : markRows k (x :: xs) a = some (r, R)) :
    ∃ r' x' rest, laws_markInt8S.f k x a = some (r', x') ∧ markRows k xs r' = some (r, rest) ∧ R = x' :: rest := by
  unfold markRows at h
  obtain ⟨⟨r', x'⟩, h1, h2⟩ := Option.bind_eq_some_iff.mp h
  obtain ⟨⟨r3, rest⟩, h3, h4⟩ := Option.bind_eq_some_iff.mp h2
  injection h4 with h4
  injection h4 with h5 h6
  exact ⟨r', x', rest, h1, by rw [← h5]; exact h3, h6.symm⟩
theorem markRows_mono (k : Nat) : ∀ (xs : List (List Int)) (a : Int), LeO (markRows k xs a) (markRows (k + 1) xs a) := by
  intro xs
  induction xs with
  | nil => intro a; exact LeO.refl _
  | cons x t ih => intro a; exact LeO.bind (laws_markInt8S.mono _ _ _) (fun p => LeO.bind (ih _) (fun _ => LeO.refl _))
/-- What markGame writes and gives back. -/
def laws_markGame.f (k : Nat) (l0 : List (List Int)) (a1 : Int) : Option (Int × List (List Int)) := markRows k l0 a1
theorem laws_markGame.mono : ∀ a0 a1 k, LeO (laws_markGame.f k a0 a1) (laws_markGame.f (k + 1) a0 a1) := fun a0 a1 k => markRows_mono k a0 a1
theorem mg_set (pre : List (List Int)) (x x' : List Int) (t : List (List Int)) : (pre ++ x :: t).set pre.length x' = (pre ++ [x']) ++ t := by
  induction pre with
  | nil => rfl
  | cons p q ih =>
    show p :: ((q ++ x :: t).set q.length x') = _
    rw [ih]
    rfl
theorem mg_at (pre : List (List Int)) (x : List Int) (t : List (List Int)) : (pre ++ x :: t).getD ((pre.length : Int)).toNat [] = x := by
  simp [List.getD_eq_getElem?_getD]
/-- One row, lent, written and put back. -/
theorem mg_lend {w : World} {base g n cap : Nat} {ok : Nat → Prop} {pre : List (List Int)} {x : List Int} {t : List (List Int)}
    (h : Kd.S (Kd.slice 76 (Kd.int .i8)) 72 w base ok (.slice (some ⟨g, 0, none⟩) n cap) (pre ++ x :: t)) :
    ∃ (oki : Nat → Prop) (A : Option Addr) (c : Nat), Kd.R (Kd.int .i8) 76 w base oki (.slice A x.length c) x ∧ w.cell? ⟨g, pre.length, none⟩ = some (.slice A x.length c) ∧ (∀ k, oki k → ok k) ∧
      ∀ (w2 : World) (x' : List Int) (okp : Nat → Prop), Kept w w2 oki → Kd.R (Kd.int .i8) 76 w2 base okp (.slice A x.length c) x' → (∀ k, okp k → oki k ∨ (ok k ∧ w.heap.size ≤ k)) → Kd.S (Kd.slice 76 (Kd.int .i8)) 72 w2 base ok (.slice (some ⟨g, 0, none⟩) n cap) ((pre ++ [x']) ++ t) := by
  have hn := (Kd.S_reads' h).1
  rw [List.length_append, List.length_cons] at hn
  obtain ⟨oki, c, hc, hM, hcell, hok, hH⟩ := Kd.S_lend h ([] : List Int) (pre.length : Int) (by omega) (by omega)
  rw [mg_at] at hM
  obtain ⟨v, rfl, hR⟩ := hM
  obtain ⟨A, cc, rfl⟩ := Kd.R_slice hR
  refine ⟨oki, A, cc, hR, ?_, fun k hk => (hok k hk).1, ?_⟩
  · have := hcell 0 _ rfl
    have hs : ((pre.length : Int)).toNat * (Kd.slice 76 (Kd.int .i8)).sz + 0 = pre.length := by show pre.length * 1 + 0 = pre.length; omega
    rw [hs] at this
    exact this
  · intro w2 x' okp hk hR2 hokp
    have h2 := Kd.H_kept (Kd.H_widen hH) hk (fun k _ hn hs => hn (.inl hs))
    have h3 := Kd.H_back h2 (x' := x') (okp := okp) ⟨_, rfl, hR2⟩ hokp
    have e : ((pre.length : Int)).toNat = pre.length := by omega
    rw [e, mg_set] at h3
    exact h3
set_option maxHeartbeats 400000 in
set_option maxRecDepth 100000 in
theorem laws_markGame.calls (k : Nat) (P0_ : Nat → Prop) (u9000_ : Value) (l0 : List (List Int)) (a1 : Int) (r1 : Int) (r2 : List (List Int)) (w0 w : World) (hB : Below w0.heap.size w0 w) (ho0 : Kd.S (Kd.slice 76 (Kd.int .i8)) 72 w w0.heap.size P0_ u9000_ l0) (h : laws_markGame.f k l0 a1 = some (r1, r2)) :
    Calls Tryd.prog 44 #[u9000_, .int .i64 a1] w fun e w' => e = .returned (.int .i64 r1) ∧ Kd.S (Kd.slice 76 (Kd.int .i8)) 72 w' w0.heap.size (fun k_ => (P0_ k_ ∨ w.heap.size ≤ k_)) u9000_ r2 ∧ Below w0.heap.size w0 w' ∧ Kept w w' (fun k_ => P0_ k_) := by
  have HO := Aside0.mk (Kd.S_mono (ok' := fun k_ => (P0_ k_ ∨ w.heap.size ≤ k_)) ho0 (fun k_ hk => (.inl hk)))
  have HK := Aside0.mk (Kept.refl w (fun k_ => P0_ k_))
  have HB := Aside0.mk hB
  have HF := Aside0.mk (show markRows k l0 a1 = some (r1, r2) from h)
  obtain ⟨A, cap, rfl⟩ := Kd.S_slice ho0
  have hm := (Kd.S_reads' ho0).2.2.2.1
  clear ho0 hB h
  go_enter Tryd.func44, Tryd.ntmps44
  go_wp2
  go_loopw [1, 5] (fun v1 v5 w' => ∃ (n : Nat) (x1 : Int) (pre t rest : List (List Int)), v1 = .int .i64 x1 ∧ v5 = .int .i64 n ∧ pre.length = n ∧ n + t.length = l0.length ∧ Aside0 (markRows k t x1 = some (r1, rest)) ∧ Aside0 (r2 = pre ++ rest) ∧ Aside0 (Kd.S (Kd.slice 76 (Kd.int .i8)) 72 w' w0.heap.size (fun k_ => (P0_ k_ ∨ w.heap.size ≤ k_)) (.slice A l0.length cap) (pre ++ t)) ∧ Aside0 (Kept w w' (fun k_ => P0_ k_)) ∧ Aside0 (Below w0.heap.size w0 w')) (fun v1 v5 w' => l0.length - (intOf v5).toNat)
  case atStart => exact ⟨0, a1, [], l0, r2, rfl, rfl, rfl, by omega, HF, ⟨rfl⟩, HO, HK, HB⟩
  case round =>
    clear HO HK HB HF
    obtain ⟨n, x1, pre, t, rest, rfl, rfl, hp, hl, HF, HR2, HO, HK, HB⟩ := hrel
    cases t with
    | nil =>
      have hn : n = l0.length := by simpa using hl
      subst hn
      have hf := HF.out
      unfold markRows at hf
      injection hf with hf
      injection hf with hf1 hf2
      subst hf1
      have e := HR2.out
      rw [← hf2, List.append_nil] at e
      have ho := HO.out
      rw [List.append_nil, ← e] at ho
      have HO' := Aside0.mk ho
      clear ho e HO HR2 HF hf2 hl
      go_wp2
      go_ret
      exact ⟨rfl, HO'.out, HB.out, HK.out⟩
    | cons x t =>
      obtain ⟨r', x', rest', hf, hg, rfl⟩ := markRows_cons HF.out
      have hlt : n < l0.length := by simp at hl; omega
      obtain ⟨g, cap', he, _, _, _⟩ := Kd.S_form HO.out (by rw [List.length_append, List.length_cons]; omega)
      have hlen : (pre ++ x :: t).length = l0.length := by simp at hl ⊢; omega
      injection he with hA hnn hcap
      clear hnn
      subst hA hcap
      subst hp
      obtain ⟨oki, A', c', hR, hcell, hok, hback⟩ := mg_lend HO.out
      have HRR := Aside0.mk hR
      have HF' := Aside0.mk hf
      have HG := Aside0.mk hg
      have HOK := Aside0.mk hok
      have HBK := Aside0.mk hback
      clear hR hf hg hok hback
      have hltb : decide ((pre.length : Int) < (l0.length : Int)) = true := decide_eq_true (by omega)
      have HL := Aside0.mk hl
      have HLT := Aside0.mk hlt
      clear hl hlen
      go_wp2_with (go_at_call 80; refine (laws_markInt8S.calls k oki _ x x1 r' x' w0 _ HB.out HRR.out HF'.out).mono ?_; rintro e w2 ⟨rfl, hR2, hB2, hK2⟩; have HS := Aside0.mk (HBK.out w2 x' _ hK2 hR2 (fun k_ hk_ => hk_.elim .inl (fun h_ => .inr ⟨.inr (Nat.le_trans HK.out.1 h_), h_⟩))); have HK2 := Aside0.mk (HK.out.then_ hK2 (fun k_ hk_ => HOK.out k_ hk_)); have HB2 := Aside0.mk hB2; clear hR2 hB2 hK2)
      exact ⟨⟨pre.length + 1, r', pre ++ [x'], t, rest', rfl, by go_num, by simp, by have hl := HL.out; simp at hl ⊢; omega, HG, ⟨by rw [HR2.out]; simp⟩, HS, HK2, HB2⟩, by have := HLT.out; simp [intOf]; omega⟩

/-! ### laws_heldInt8S: function 81 -/
def laws_heldInt8S.l0 : Nat → List Int → Int → Int → Option (Int)
  | 0, _, _, _ => none
  | k + 1, x0, x1, x5 => if x5 < (x0.length : Int) then (if 0 ≤ x5 then (if (rd x0 x5) = (IntKind.i8.wrap (x1)) then (laws_heldInt8S.l0 k x0 (wrap64 (x1 + 1)) (wrap64 (x5 + 1))) else (some (-1))) else (none)) else (some x1)
def laws_heldInt8S.f (k : Nat) (l0 : List Int) (a1 : Int) : Option (Int) := laws_heldInt8S.l0 k l0 a1 0
theorem laws_heldInt8S.mono_l : ∀ k, (∀ y0 y1 y2, LeO (laws_heldInt8S.l0 k y0 y1 y2) (laws_heldInt8S.l0 (k + 1) y0 y1 y2))
  | 0 => fun _ _ _ r h => by simp [laws_heldInt8S.l0] at h
  | k + 1 => by
    have ih0 := laws_heldInt8S.mono_l k
    · intro y0 y1 y2
      unfold laws_heldInt8S.l0
      repeat' first
      | (with_reducible exact ih0 _ _ _)
      | (with_reducible exact LeO.refl _)
      | (with_reducible exact LeO.none _)
      | (with_reducible refine LeO.ite ?_ ?_)
      | (with_reducible refine LeO.bind ?_ (fun _ => ?_))
      | exact ih0 _ _ _
      | exact LeO.none _
      | refine LeO.ite ?_ ?_
      | refine LeO.bind ?_ (fun _ => ?_)
theorem laws_heldInt8S.mono : ∀ a0 a1 k, LeO (laws_heldInt8S.f k a0 a1) (laws_heldInt8S.f (k + 1) a0 a1) := by
  intro a0 a1 k
  have ih0 := laws_heldInt8S.mono_l k
  unfold laws_heldInt8S.f
  repeat' first
      | (with_reducible exact ih0 _ _ _)
      | (with_reducible exact LeO.refl _)
      | (with_reducible exact LeO.none _)
      | (with_reducible refine LeO.ite ?_ ?_)
      | (with_reducible refine LeO.bind ?_ (fun _ => ?_))
      | exact ih0 _ _ _
      | exact LeO.none _
      | refine LeO.ite ?_ ?_
      | refine LeO.bind ?_ (fun _ => ?_)
set_option maxHeartbeats 8000000 in
set_option maxRecDepth 100000 in
theorem laws_heldInt8S.calls (k : Nat) (A0 : Option Addr) (c0 : Nat) (l0 : List Int) (a1 : Int) (r : Int) (w : World) (hr0 : Kd.C (Kd.int .i8) w A0 l0.length l0) (hc0 : l0.length ≤ c0) (h : laws_heldInt8S.f k l0 a1 = some r) :
    Calls Tryd.prog 81 #[.slice A0 l0.length c0, .int .i64 a1] w fun e w' => e = .returned (.int .i64 r) ∧ Drawn0 w w' := by
  have HR0 := Aside0.mk hr0
  have HC0 := Aside0.mk hc0
  clear hr0 hc0
  have H : (laws_heldInt8S.l0 k l0 a1 0) = some r := h
  clear h
  have H' := Aside0.mk H
  clear H
  go_enter Tryd.func81, Tryd.ntmps81
  go_wp2
  go_loopg [1, 5] k (fun kq v1 v5 w' => ∃ (x1_1 : Int) (x5_1 : Int), v1 = .int .i64 x1_1 ∧ v5 = .int .i64 x5_1 ∧ Aside0 (laws_heldInt8S.l0 kq l0 x1_1 x5_1 = some r) ∧ Aside0 (kq ≤ k) ∧ Drawn0 w w')
  case atStart => exact ⟨(a1), (0), (by first | rfl | (simp; done) | (simp [*]; done)), (by first | rfl | (simp; done) | (simp [*]; done)), H', ⟨Nat.le_refl _⟩, by repeat (first | exact Drawn0.refl _ | apply Drawn0.step)⟩
  case round =>
    clear H'
    try clear p2
    obtain ⟨x1_1, x5_1, rfl, rfl, HA, HK1, ⟨m1, rfl⟩⟩ := hrel
    cases gk with
    | zero => exact absurd HA.out (by simp [laws_heldInt8S.l0])
    | succ k1 =>
      have H := HA.out
      clear HA
      simp only [laws_heldInt8S.l0] at H
      by_cases c3 : x5_1 < (l0.length : Int)
      · rw [if_pos c3] at H
        have c3b0 : decide (x5_1 < (l0.length : Int)) = true := decide_eq_true c3
        clear c3
        by_cases c4 : 0 ≤ x5_1
        · rw [if_pos c4] at H
          have c4b0 : decide (0 ≤ x5_1) = true := decide_eq_true c4
          clear c4
          by_cases c5 : (rd l0 x5_1) = (IntKind.i8.wrap (x1_1))
          · rw [if_pos c5] at H
            have c5b0 : ((rd l0 x5_1) == (IntKind.i8.wrap (x1_1))) = true := beq_iff_eq.mpr c5
            have c5b1 : ((rd l0 x5_1) != (IntKind.i8.wrap (x1_1))) = false := bne_eq_false_iff_eq.mpr c5
            clear c5
            have H' := Aside0.mk H
            clear H
            have p190 : 0 ≤ (x5_1 : Int) := of_decide_eq_true (by first | (with_reducible assumption) | assumption)
            have q190 : x5_1 < (l0.length : Int) := of_decide_eq_true (by first | (with_reducible assumption) | assumption)
            obtain ⟨ad190, e190, hx190_0⟩ := Kd.at_int HR0.out x5_1 p190 q190
            cases e190
            replace p190 := eq_true p190
            replace q190 := eq_true q190
            go_wp2
            go_roundg k1
            case measure => have := HK1.out; omega
            case rel => exact ⟨(wrap64 (x1_1 + 1)), (wrap64 (x5_1 + 1)), (by first | rfl | (simp; done) | (simp [*]; done)), (by first | rfl | (simp; done) | (simp [*]; done)), H', ⟨by have := HK1.out; omega⟩, by repeat (first | exact Drawn0.refl _ | apply Drawn0.step)⟩
          · rw [if_neg c5] at H
            have c5b0 : ((rd l0 x5_1) == (IntKind.i8.wrap (x1_1))) = false := beq_eq_false_iff_ne.mpr c5
            have c5b1 : ((rd l0 x5_1) != (IntKind.i8.wrap (x1_1))) = true := bne_iff_ne.mpr c5
            obtain rfl := Option.some.inj H
            have p190 : 0 ≤ (x5_1 : Int) := of_decide_eq_true (by first | (with_reducible assumption) | assumption)
            have q190 : x5_1 < (l0.length : Int) := of_decide_eq_true (by first | (with_reducible assumption) | assumption)
            obtain ⟨ad190, e190, hx190_0⟩ := Kd.at_int HR0.out x5_1 p190 q190
            cases e190
            replace p190 := eq_true p190
            replace q190 := eq_true q190
            go_wp2
            go_ret
            exact ⟨by first | rfl | (simp; done) | (simp [*]; done), by repeat (first | exact Drawn0.refl _ | apply Drawn0.step)⟩
        · rw [if_neg c4] at H
          exact absurd H (by simp)
      · rw [if_neg c3] at H
        have c3b0 : decide (x5_1 < (l0.length : Int)) = false := decide_eq_false c3
        clear c3
        obtain rfl := Option.some.inj H
        go_wp2
        go_ret
        exact ⟨by first | rfl | (simp; done) | (simp [*]; done), by repeat (first | exact Drawn0.refl _ | apply Drawn0.step)⟩

/-! ### laws_heldGame: function 45 -/
def laws_heldGame.l0 : Nat → List (List Int) → Int → Int → Option (Int)
  | 0, _, _, _ => none
  | k + 1, x0, x1, x5 => if x5 < (x0.length : Int) then (if 0 ≤ x5 then ((laws_heldInt8S.f k (rd_L1 x0 x5) x1).bind fun t192 => (if t192 < 0 then (some (-1)) else (laws_heldGame.l0 k x0 t192 (wrap64 (x5 + 1))))) else (none)) else (some x1)
def laws_heldGame.f (k : Nat) (l0 : List (List Int)) (a1 : Int) : Option (Int) := laws_heldGame.l0 k l0 a1 0
theorem laws_heldGame.mono_l : ∀ k, (∀ y0 y1 y2, LeO (laws_heldGame.l0 k y0 y1 y2) (laws_heldGame.l0 (k + 1) y0 y1 y2))
  | 0 => fun _ _ _ r h => by simp [laws_heldGame.l0] at h
  | k + 1 => by
    have ih0 := laws_heldGame.mono_l k
    · intro y0 y1 y2
      unfold laws_heldGame.l0
      repeat' first
      | (with_reducible exact ih0 _ _ _)
      | (with_reducible exact laws_heldInt8S.mono _ _ _)
      | (with_reducible exact LeO.refl _)
      | (with_reducible exact LeO.none _)
      | (with_reducible refine LeO.ite ?_ ?_)
      | (with_reducible refine LeO.bind ?_ (fun _ => ?_))
      | exact ih0 _ _ _
      | exact laws_heldInt8S.mono _ _ _
      | exact LeO.none _
      | refine LeO.ite ?_ ?_
      | refine LeO.bind ?_ (fun _ => ?_)
theorem laws_heldGame.mono : ∀ a0 a1 k, LeO (laws_heldGame.f k a0 a1) (laws_heldGame.f (k + 1) a0 a1) := by
  intro a0 a1 k
  have ih0 := laws_heldGame.mono_l k
  unfold laws_heldGame.f
  repeat' first
      | (with_reducible exact ih0 _ _ _)
      | (with_reducible exact laws_heldInt8S.mono _ _ _)
      | (with_reducible exact LeO.refl _)
      | (with_reducible exact LeO.none _)
      | (with_reducible refine LeO.ite ?_ ?_)
      | (with_reducible refine LeO.bind ?_ (fun _ => ?_))
      | exact ih0 _ _ _
      | exact laws_heldInt8S.mono _ _ _
      | exact LeO.none _
      | refine LeO.ite ?_ ?_
      | refine LeO.bind ?_ (fun _ => ?_)
set_option maxHeartbeats 8000000 in
set_option maxRecDepth 100000 in
theorem laws_heldGame.calls (k : Nat) (A0 : Option Addr) (c0 : Nat) (l0 : List (List Int)) (a1 : Int) (r : Int) (w : World) (hr0 : Kd.C (Kd.slice 76 (Kd.int .i8)) w A0 l0.length l0) (hc0 : l0.length ≤ c0) (h : laws_heldGame.f k l0 a1 = some r) :
    Calls Tryd.prog 45 #[.slice A0 l0.length c0, .int .i64 a1] w fun e w' => e = .returned (.int .i64 r) ∧ Drawn0 w w' := by
  have HR0 := Aside0.mk hr0
  have HC0 := Aside0.mk hc0
  clear hr0 hc0
  have H : (laws_heldGame.l0 k l0 a1 0) = some r := h
  clear h
  have H' := Aside0.mk H
  clear H
  go_enter Tryd.func45, Tryd.ntmps45
  go_wp2
  go_loopg [1, 5] k (fun kq v1 v5 w' => ∃ (x1_1 : Int) (x5_1 : Int), v1 = .int .i64 x1_1 ∧ v5 = .int .i64 x5_1 ∧ Aside0 (laws_heldGame.l0 kq l0 x1_1 x5_1 = some r) ∧ Aside0 (kq ≤ k) ∧ Drawn0 w w')
  case atStart => exact ⟨(a1), (0), (by first | rfl | (simp; done) | (simp [*]; done)), (by first | rfl | (simp; done) | (simp [*]; done)), H', ⟨Nat.le_refl _⟩, by repeat (first | exact Drawn0.refl _ | apply Drawn0.step)⟩
  case round =>
    clear H'
    try clear p2
    obtain ⟨x1_1, x5_1, rfl, rfl, HA, HK1, ⟨m1, rfl⟩⟩ := hrel
    cases gk with
    | zero => exact absurd HA.out (by simp [laws_heldGame.l0])
    | succ k1 =>
      have H := HA.out
      clear HA
      simp only [laws_heldGame.l0] at H
      by_cases c3 : x5_1 < (l0.length : Int)
      · rw [if_pos c3] at H
        have c3b0 : decide (x5_1 < (l0.length : Int)) = true := decide_eq_true c3
        clear c3
        by_cases c4 : 0 ≤ x5_1
        · rw [if_pos c4] at H
          have c4b0 : decide (0 ≤ x5_1) = true := decide_eq_true c4
          clear c4
          replace H := Option.bind_eq_some_iff.mp H
          obtain ⟨t192, A50, H⟩ := H
          replace H : (if t192 < 0 then (some (-1)) else (laws_heldGame.l0 k1 l0 t192 (wrap64 (x5_1 + 1)))) = some r := H
          have A5 := Aside0.mk A50
          clear A50
          by_cases c6 : t192 < 0
          · rw [if_pos c6] at H
            have c6b0 : decide (t192 < 0) = true := decide_eq_true c6
            clear c6
            obtain rfl := Option.some.inj H
            have p191 : 0 ≤ (x5_1 : Int) := of_decide_eq_true (by first | (with_reducible assumption) | assumption)
            have q191 : x5_1 < (l0.length : Int) := of_decide_eq_true (by first | (with_reducible assumption) | assumption)
            obtain ⟨ad191, A191_0, c191_0, e191, hx191_0, hl191_0, hi191_0⟩ := at_L1 HR0.out x5_1 p191 q191
            cases e191
            have HR191_0 := Aside0.mk hi191_0
            have HC191_0 := Aside0.mk hl191_0
            clear hi191_0 hl191_0
            replace p191 := eq_true p191
            replace q191 := eq_true q191
            go_wp2_with (first | ((with_reducible refine gate_callee (f := 81) rfl ?_); refine goesL_ (some 17) rfl rfl Tryd.func81 (by kernel_rfl) rfl #[.slice A191_0 (rd_L1 l0 x5_1).length c191_0, .int .i64 x1_1] rfl (by (try simp only [List.map_toArray, List.map_cons, List.map_nil]); first | done | rfl | (simp only [List.length_drop, List.length_take]; rfl)) ?_; (with_reducible refine (laws_heldInt8S.calls k1 _ _ (rd_L1 l0 x5_1) x1_1 t192 _ ?side1 ?side2 A5.out).mono ?_); (case side1 => repeat (first | exact HR191_0.out | (with_reducible refine Kd.C_alloc ?_ _) | (with_reducible refine Kd.C_drewN ?_ _) | (with_reducible refine Kd.C_drew ?_))); (case side2 => exact HC191_0.out); rintro e w' ⟨rfl, ⟨nd, rfl⟩⟩; refine ⟨_, rfl, ?_⟩))
            go_ret
            exact ⟨by first | rfl | (simp; done) | (simp [*]; done), by repeat (first | exact Drawn0.refl _ | apply Drawn0.step)⟩
          · rw [if_neg c6] at H
            have c6b0 : decide (t192 < 0) = false := decide_eq_false c6
            clear c6
            have H' := Aside0.mk H
            clear H
            have p191 : 0 ≤ (x5_1 : Int) := of_decide_eq_true (by first | (with_reducible assumption) | assumption)
            have q191 : x5_1 < (l0.length : Int) := of_decide_eq_true (by first | (with_reducible assumption) | assumption)
            obtain ⟨ad191, A191_0, c191_0, e191, hx191_0, hl191_0, hi191_0⟩ := at_L1 HR0.out x5_1 p191 q191
            cases e191
            have HR191_0 := Aside0.mk hi191_0
            have HC191_0 := Aside0.mk hl191_0
            clear hi191_0 hl191_0
            replace p191 := eq_true p191
            replace q191 := eq_true q191
            go_wp2_with (first | ((with_reducible refine gate_callee (f := 81) rfl ?_); refine goesL_ (some 17) rfl rfl Tryd.func81 (by kernel_rfl) rfl #[.slice A191_0 (rd_L1 l0 x5_1).length c191_0, .int .i64 x1_1] rfl (by (try simp only [List.map_toArray, List.map_cons, List.map_nil]); first | done | rfl | (simp only [List.length_drop, List.length_take]; rfl)) ?_; (with_reducible refine (laws_heldInt8S.calls k1 _ _ (rd_L1 l0 x5_1) x1_1 t192 _ ?side1 ?side2 A5.out).mono ?_); (case side1 => repeat (first | exact HR191_0.out | (with_reducible refine Kd.C_alloc ?_ _) | (with_reducible refine Kd.C_drewN ?_ _) | (with_reducible refine Kd.C_drew ?_))); (case side2 => exact HC191_0.out); rintro e w' ⟨rfl, ⟨nd, rfl⟩⟩; refine ⟨_, rfl, ?_⟩))
            go_roundg k1
            case measure => have := HK1.out; omega
            case rel => exact ⟨(t192), (wrap64 (x5_1 + 1)), (by first | rfl | (simp; done) | (simp [*]; done)), (by first | rfl | (simp; done) | (simp [*]; done)), H', ⟨by have := HK1.out; omega⟩, by repeat (first | exact Drawn0.refl _ | apply Drawn0.step)⟩
        · rw [if_neg c4] at H
          exact absurd H (by simp)
      · rw [if_neg c3] at H
        have c3b0 : decide (x5_1 < (l0.length : Int)) = false := decide_eq_false c3
        clear c3
        obtain rfl := Option.some.inj H
        go_wp2
        go_ret
        exact ⟨by first | rfl | (simp; done) | (simp [*]; done), by repeat (first | exact Drawn0.refl _ | apply Drawn0.step)⟩

-- NOT PRINTED: function 12 (laws_FnExactReadGame)

end Go.Proofs.YtojjakjpdkpmiaaDoor.QFnExactReadGame
