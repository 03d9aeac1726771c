/- FnExactHeapGame: the printed pure statement holds: at every input the law's function answers true; no condition but the bounds of its kinds. -/
import Derived.Test.YtbhjkaiiebpopaaPFnExactHeapGamex
import Derived.Test.YtbhjkaiiebpopaaLib
import Derived.Test.YtbhjkaiiebpopaaWKept
import Derived.Test.YtbhjkaiiebpopaaWApart
set_option linter.unusedVariables false
set_option linter.unusedSimpArgs false
namespace Go.Proofs.Ytbhjkaiiebpopaa.Pure
open Go.RowKit Go.Proofs.Ytbhjkaiiebpopaa.PFnExactHeapGame Go.Proofs.YtbhjkaiiebpopaaW.PrintWords Go.Proofs.YtbhjkaiiebpopaaW.PrintLast Go.Proofs.Ytbhjkaiiebpopaa.Lib

theorem rdL2_nat {g : List (List Int)} {n : Nat} (h : n < g.length) : rd_L1 g (n : Int) = g[n] := by simp [rd_L1, List.getD_eq_getElem?_getD, List.getElem?_eq_getElem h]

theorem eqInt8S_ev (xs ys : List Int) (hn : xs.length ≤ 140737488355328) : Ev (fun k => laws_eqInt8S.f k xs ys) (decide (xs = ys)) :=
  eq_all (L := laws_eqInt8S.l0) (fun _ _ _ _ => rfl) xs ys (by omega)

theorem eqGame_ev (g h : List (List Int)) (hg : g.length ≤ 1048576) (hr : ∀ mv ∈ g, mv.length ≤ 1048576) : Ev (fun k => laws_eqGame.f k g h) (decide (g = h)) := by
  by_cases hl : g.length = h.length
  · have main : ∀ (d n : Nat), n + d = g.length → g.take n = h.take n → Ev (fun k => laws_eqGame.l0 k g h (n : Int)) (decide (g = h)) := by
      intro d
      induction d with
      | zero =>
        intro n h1 h3
        refine Ev_round ?_
        simp only [laws_eqGame.l0]
        refine Ev_neg (by omega) (Ev_as (Ev.now _) ?_)
        rw [List.take_of_length_le (by omega), List.take_of_length_le (by omega)] at h3
        simp [h3]
      | succ d ih =>
        intro n h1 h3
        have hn : n < g.length := by omega
        have hm : n < h.length := by omega
        refine Ev_round ?_
        simp only [laws_eqGame.l0]
        refine Ev_pos (by omega) (Ev_pos (by omega) (Ev_pos (by omega) ?_))
        rw [rdL2_nat hn, rdL2_nat hm, w64 (by omega) (by omega)]
        refine Ev.bind (eqInt8S_ev _ _ (by have := hr _ (List.getElem_mem hn); omega)) ?_
        by_cases e : g[n] = h[n]
        · refine Ev_pos (by simp [e]) (ih (n + 1) (by omega) ?_)
          rw [List.take_succ_eq_append_getElem hn, List.take_succ_eq_append_getElem hm, h3, e]
        · refine Ev_neg (by simp [e]) (Ev_as (Ev.now _) ?_)
          have : g ≠ h := fun x => e (by subst x; rfl)
          simp [this]
    exact Ev_pos (by omega) (main g.length 0 (by omega) (by simp))
  · refine Ev_neg (by omega) (Ev_as (Ev.now _) ?_)
    have : g ≠ h := fun e => hl (by rw [e])
    simp [this]

/-- The game of a heap. -/
def heapG (n : Nat) : List (List Int) := (List.range n).map fun i => (List.range i).map fun j : Nat => (j : Int)
theorem heapG_succ (n : Nat) : heapG (n + 1) = heapG n ++ [(List.range n).map fun j : Nat => (j : Int)] := by simp [heapG, List.range_succ]
/-- What HeapGame answers. -/
def heapR (a : Int) : List (List Int) × Int := if 0 ≤ a ∧ a ≤ 59 then (heapG (a.toNat + 1), 0) else ([], 2)
theorem spec_heap_ev (h : Nat) (hh : h ≤ 59) : ∀ (d n : Nat), n + d = h + 1 → Ev (fun k => spec_HeapGame.l0 k (h : Int) (heapG n) (n : Int)) (heapG (h + 1), 0) := by
  intro d
  induction d with
  | zero =>
    intro n hn
    obtain rfl : n = h + 1 := by omega
    refine Ev_round ?_
    simp only [spec_HeapGame.l0]
    exact Ev_neg (by omega) (Ev.now _)
  | succ d ih =>
    intro n hn
    refine Ev_round ?_
    simp only [spec_HeapGame.l0]
    refine Ev_pos (by omega) ?_
    have inner : ∀ (e j : Nat), j + e = n → Ev (fun k => spec_HeapGame.l1 k (h : Int) (heapG n) (n : Int) ((List.range j).map fun j : Nat => (j : Int)) (j : Int)) (heapG (h + 1), 0) := by
      intro e
      induction e with
      | zero =>
        intro j hj
        obtain rfl : j = n := by omega
        refine Ev_round ?_
        simp only [spec_HeapGame.l1]
        refine Ev_neg (by omega) (Ev_pos (by simp [heapG]; omega) ?_)
        rw [← heapG_succ, w64 (by omega) (by omega)]
        exact ih (j + 1) (by omega)
      | succ e ihe =>
        intro j hj
        refine Ev_round ?_
        simp only [spec_HeapGame.l1]
        refine Ev_pos (by omega) (Ev_pos (by simp; omega) ?_)
        rw [w64 (by omega) (by omega), wi8 (by omega) (by omega)]
        have := ihe (j + 1) (by omega)
        rw [List.range_succ, List.map_append] at this
        exact this
    exact inner n 0 (by omega)
theorem spec_heap_f (a : Int) (ha : -9223372036854775808 ≤ a ∧ a ≤ 9223372036854775807) : Ev (fun k => spec_HeapGame.f k a) (heapR a) := by
  unfold spec_HeapGame.f spec_l00In.f
  by_cases c0 : 0 ≤ a
  · by_cases c1 : a ≤ 59
    · have hR : heapR a = (heapG (a.toNat + 1), 0) := by unfold heapR; exact if_pos ⟨c0, c1⟩
      rw [hR]
      obtain ⟨h, rfl⟩ := Int.eq_ofNat_of_zero_le c0
      exact Ev_bind1 (if_pos c0) (Ev_pos (by simpa using c1) (spec_heap_ev h (by omega) (h + 1) 0 (by omega)))
    · have hR : heapR a = ([], 2) := by unfold heapR; exact if_neg (fun h => c1 h.2)
      rw [hR]
      exact Ev_bind1 (if_pos c0) (Ev_neg (by simpa using c1) (Ev.now _))
  · have hR : heapR a = ([], 2) := by unfold heapR; exact if_neg (fun h => c0 h.1)
    rw [hR]
    exact Ev_bind1 (if_neg c0) (Ev_neg (by simp) (Ev.now _))

theorem impl_heap_ev (h : Nat) (hh : h ≤ 59) : ∀ (d n : Nat), n + d = h + 1 → Ev (fun k => impl_HeapGame.l0 k (heapG n) ((h + 1 : Nat) : Int) (n : Int)) (heapG (h + 1), 0) := by
  intro d
  induction d with
  | zero =>
    intro n hn
    obtain rfl : n = h + 1 := by omega
    refine Ev_round ?_
    simp only [impl_HeapGame.l0]
    exact Ev_neg (by omega) (Ev.now _)
  | succ d ih =>
    intro n hn
    refine Ev_round ?_
    simp only [impl_HeapGame.l0]
    refine Ev_pos (by omega) ?_
    have inner : ∀ (e j : Nat), j + e = n → Ev (fun k => impl_HeapGame.l1 k (heapG n) ((List.range j).map fun j : Nat => (j : Int)) ((h + 1 : Nat) : Int) (n : Int) (n : Int) (j : Int)) (heapG (h + 1), 0) := by
      intro e
      induction e with
      | zero =>
        intro j hj
        obtain rfl : j = n := by omega
        refine Ev_round ?_
        simp only [impl_HeapGame.l1]
        refine Ev_neg (by omega) (Ev_pos (by simp [heapG]; omega) ?_)
        rw [← heapG_succ, wi8 (by omega) (by omega)]
        exact ih (j + 1) (by omega)
      | succ e ihe =>
        intro j hj
        refine Ev_round ?_
        simp only [impl_HeapGame.l1]
        refine Ev_pos (by omega) (Ev_pos (by simp; omega) ?_)
        rw [wi8 (by omega) (by omega)]
        have := ihe (j + 1) (by omega)
        rw [List.range_succ, List.map_append] at this
        exact this
    exact inner n 0 (by omega)
theorem impl_heap_f (a : Int) (ha : -9223372036854775808 ≤ a ∧ a ≤ 9223372036854775807) : Ev (fun k => impl_HeapGame.f k a) (heapR a) := by
  unfold impl_HeapGame.f impl_within.f
  by_cases c0 : 0 ≤ a
  · by_cases c1 : a ≤ 59
    · have hR : heapR a = (heapG (a.toNat + 1), 0) := by unfold heapR; exact if_pos ⟨c0, c1⟩
      rw [hR]
      obtain ⟨h, rfl⟩ := Int.eq_ofNat_of_zero_le c0
      refine Ev_bind1 (if_pos c0) (Ev_pos (by simpa using c1) ?_)
      rw [w64 (by omega) (by omega), wi8 (by omega) (by omega)]
      exact impl_heap_ev h (by omega) (h + 1) 0 (by omega)
    · have hR : heapR a = ([], 2) := by unfold heapR; exact if_neg (fun h => c1 h.2)
      rw [hR]
      exact Ev_bind1 (if_pos c0) (Ev_neg (by simpa using c1) (Ev.now _))
  · have hR : heapR a = ([], 2) := by unfold heapR; exact if_neg (fun h => c0 h.1)
    rw [hR]
    exact Ev_bind1 (if_neg c0) (Ev_neg (by simp) (Ev.now _))

theorem markInt8S_ev (xs : List Int) (a : Int) (ha : 0 ≤ a) (hb : a + (xs.length : Int) ≤ 9223372036854775806) : Ev (fun k => laws_markInt8S.f k xs a) (a + (xs.length : Int), markG .i8 a xs.length) := by
  have h := mark_loop (L := laws_markInt8S.l0) (K := .i8) (fun _ _ _ _ => rfl) a xs.length ha hb xs.length 0 xs (by omega) rfl (by simp)
  have e : a + ((0 : Nat) : Int) = a := by omega
  rw [e] at h
  exact h

theorem heldInt8S_ev (a : Int) (N : Nat) (ha : 0 ≤ a) (hb : a + (N : Int) ≤ 9223372036854775806) : Ev (fun k => laws_heldInt8S.f k (markG .i8 a N) a) (a + (N : Int)) := by
  have h := held_loop (L := laws_heldInt8S.l0) (K := .i8) (fun _ _ _ _ => rfl) a N ha hb N 0 (by omega)
  have e : a + ((0 : Nat) : Int) = a := by omega
  rw [e] at h
  exact h
/-- How many numbers a game has; what it holds when it was marked from a on. -/
def tot : List (List Int) → Int
  | [] => 0
  | x :: t => (x.length : Int) + tot t
def mgRows : Int → List (List Int) → List (List Int)
  | _, [] => []
  | a, x :: t => markG .i8 a x.length :: mgRows (a + (x.length : Int)) t
theorem tot_pos : ∀ g : List (List Int), 0 ≤ tot g := by
  intro g
  induction g with
  | nil => simp [tot]
  | cons x t ih => unfold tot; omega

theorem heldGame_go : ∀ (t pre : List (List Int)) (a : Int), 0 ≤ a → a + tot t ≤ 9223372036854775806 → (pre.length : Int) + (t.length : Int) ≤ 9223372036854775806 → Ev (fun k => laws_heldGame.l0 k (pre ++ mgRows a t) a (pre.length : Int)) (a + tot t) := by
  intro t
  induction t with
  | nil =>
    intro pre a ha hb hl
    refine Ev_round ?_
    simp only [laws_heldGame.l0]
    exact Ev_neg (by simp [mgRows]) (Ev_as (Ev.now _) (by simp [tot]))
  | cons x t ih =>
    intro pre a ha hb hl
    have h0 := tot_pos t
    unfold tot at hb
    rw [List.length_cons] at hl
    have hlt : pre.length < (pre ++ mgRows a (x :: t)).length := by simp [mgRows]
    refine Ev_round ?_
    simp only [laws_heldGame.l0]
    refine Ev_pos (by omega) (Ev_pos (by omega) ?_)
    rw [rdL2_nat hlt]
    have e : (pre ++ mgRows a (x :: t))[pre.length] = markG .i8 a x.length := by simp [mgRows]
    rw [e]
    refine Ev.bind (heldInt8S_ev a x.length ha (by omega)) (Ev_neg (by omega) ?_)
    rw [w64 (by omega) (by omega)]
    have h := ih (pre ++ [markG .i8 a x.length]) (a + (x.length : Int)) (by omega) (by omega) (by rw [List.length_append, List.length_singleton]; omega)
    rw [List.append_assoc, List.length_append, List.length_singleton] at h
    have e2 : a + tot (x :: t) = a + (x.length : Int) + tot t := by show a + ((x.length : Int) + tot t) = _; omega
    have e3 : ((pre.length : Int) + 1) = ((pre.length + 1 : Nat) : Int) := by omega
    rw [e2, e3]
    exact h
theorem heldGame_ev (g : List (List Int)) (a : Int) (ha : 0 ≤ a) (hb : a + tot g ≤ 9223372036854775806) (hl : (g.length : Int) ≤ 9223372036854775806) : Ev (fun k => laws_heldGame.f k (mgRows a g) a) (a + tot g) :=
  heldGame_go g [] a ha hb (by simpa using hl)

def markRows (k : Nat) : List (List Int) → Int → Option (Int × List (List Int))
  | [], a => some (a, [])
  | x :: xs, a => (laws_markInt8S.f k x a).bind fun p => (markRows k xs p.1).bind fun q => some (q.1, p.2 :: q.2)
theorem markRows_cons {k : Nat} {x : List Int} {xs : List (List Int)} {a r : Int} {R : List (List Int)} (h : markRows k (x :: xs) a = some (r, R)) :
    ∃ r' x' rest, laws_markInt8S.f k x a = some (r', x') ∧ markRows k xs r' = some (r, rest) ∧ R = x' :: rest := by
  unfold markRows at h
  obtain ⟨⟨r', x'⟩, h1, h2⟩ := Option.bind_eq_some_iff.mp h
  obtain ⟨⟨r3, rest⟩, h3, h4⟩ := Option.bind_eq_some_iff.mp h2
  injection h4 with h4
  injection h4 with h5 h6
  exact ⟨r', x', rest, h1, by rw [← h5]; exact h3, h6.symm⟩
theorem markRows_mono (k : Nat) : ∀ (xs : List (List Int)) (a : Int), LeO (markRows k xs a) (markRows (k + 1) xs a) := by
  intro xs
  induction xs with
  | nil => intro a; exact LeO.refl _
  | cons x t ih => intro a; exact LeO.bind (laws_markInt8S.mono _ _ _) (fun p => LeO.bind (ih _) (fun _ => LeO.refl _))
/-- What markGame writes and gives back. -/
def laws_markGame.f (k : Nat) (l0 : List (List Int)) (a1 : Int) : Option (Int × List (List Int)) := markRows k l0 a1
theorem laws_markGame.mono : ∀ a0 a1 k, LeO (laws_markGame.f k a0 a1) (laws_markGame.f (k + 1) a0 a1) := fun a0 a1 k => markRows_mono k a0 a1
theorem mg_set (pre : List (List Int)) (x x' : List Int) (t : List (List Int)) : (pre ++ x :: t).set pre.length x' = (pre ++ [x']) ++ t := by
  induction pre with
  | nil => rfl
  | cons p q ih =>
    show p :: ((q ++ x :: t).set q.length x') = _
    rw [ih]
    rfl
theorem mg_at (pre : List (List Int)) (x : List Int) (t : List (List Int)) : (pre ++ x :: t).getD ((pre.length : Int)).toNat [] = x := by
  simp [List.getD_eq_getElem?_getD]
/-- One row, lent, written and put back. -/
theorem mg_lend {w : World} {base g n cap : Nat} {ok : Nat → Prop} {pre : List (List Int)} {x : List Int} {t : List (List Int)}
    (h : Kd.S (Kd.slice 72 (Kd.int .i8)) 70 w base ok (.slice (some ⟨g, 0, none⟩) n cap) (pre ++ x :: t)) :
    ∃ (oki : Nat → Prop) (A : Option Addr) (c : Nat), Kd.R (Kd.int .i8) 72 w base oki (.slice A x.length c) x ∧ w.cell? ⟨g, pre.length, none⟩ = some (.slice A x.length c) ∧ (∀ k, oki k → ok k) ∧
      ∀ (w2 : World) (x' : List Int) (okp : Nat → Prop), Kept w w2 oki → Kd.R (Kd.int .i8) 72 w2 base okp (.slice A x.length c) x' → (∀ k, okp k → oki k ∨ (ok k ∧ w.heap.size ≤ k)) → Kd.S (Kd.slice 72 (Kd.int .i8)) 70 w2 base ok (.slice (some ⟨g, 0, none⟩) n cap) ((pre ++ [x']) ++ t) := by
  have hn := (Kd.S_reads' h).1
  rw [List.length_append, List.length_cons] at hn
  obtain ⟨oki, c, hc, hM, hcell, hok, hH⟩ := Kd.S_lend h ([] : List Int) (pre.length : Int) (by omega) (by omega)
  rw [mg_at] at hM
  obtain ⟨v, rfl, hR⟩ := hM
  obtain ⟨A, cc, rfl⟩ := Kd.R_slice hR
  refine ⟨oki, A, cc, hR, ?_, fun k hk => (hok k hk).1, ?_⟩
  · have := hcell 0 _ rfl
    have hs : ((pre.length : Int)).toNat * (Kd.slice 72 (Kd.int .i8)).sz + 0 = pre.length := by show pre.length * 1 + 0 = pre.length; omega
    rw [hs] at this
    exact this
  · intro w2 x' okp hk hR2 hokp
    have h2 := Kd.H_kept (Kd.H_widen hH) hk (fun k _ hn hs => hn (.inl hs))
    have h3 := Kd.H_back h2 (x' := x') (okp := okp) ⟨_, rfl, hR2⟩ hokp
    have e : ((pre.length : Int)).toNat = pre.length := by omega
    rw [e, mg_set] at h3
    exact h3
set_option maxHeartbeats 400000 in
set_option maxRecDepth 100000 in
theorem laws_markGame.calls (k : Nat) (P0_ : Nat → Prop) (u9000_ : Value) (l0 : List (List Int)) (a1 : Int) (r1 : Int) (r2 : List (List Int)) (w0 w : World) (hB : Below w0.heap.size w0 w) (ho0 : Kd.S (Kd.slice 72 (Kd.int .i8)) 70 w w0.heap.size P0_ u9000_ l0) (h : laws_markGame.f k l0 a1 = some (r1, r2)) :
    Calls Try.prog 22 #[u9000_, .int .i64 a1] w fun e w' => e = .returned (.int .i64 r1) ∧ Kd.S (Kd.slice 72 (Kd.int .i8)) 70 w' w0.heap.size (fun k_ => (P0_ k_ ∨ w.heap.size ≤ k_)) u9000_ r2 ∧ Below w0.heap.size w0 w' ∧ Kept w w' (fun k_ => P0_ k_) := by
  have HO := Aside0.mk (Kd.S_mono (ok' := fun k_ => (P0_ k_ ∨ w.heap.size ≤ k_)) ho0 (fun k_ hk => (.inl hk)))
  have HK := Aside0.mk (Kept.refl w (fun k_ => P0_ k_))
  have HB := Aside0.mk hB
  have HF := Aside0.mk (show markRows k l0 a1 = some (r1, r2) from h)
  obtain ⟨A, cap, rfl⟩ := Kd.S_slice ho0
  have hm := (Kd.S_reads' ho0).2.2.2.1
  clear ho0 hB h
  go_enter Try.func22, Try.ntmps22
  go_wp2
  go_loopw [1, 5] (fun v1 v5 w' => ∃ (n : Nat) (x1 : Int) (pre t rest : List (List Int)), v1 = .int .i64 x1 ∧ v5 = .int .i64 n ∧ pre.length = n ∧ n + t.length = l0.length ∧ Aside0 (markRows k t x1 = some (r1, rest)) ∧ Aside0 (r2 = pre ++ rest) ∧ Aside0 (Kd.S (Kd.slice 72 (Kd.int .i8)) 70 w' w0.heap.size (fun k_ => (P0_ k_ ∨ w.heap.size ≤ k_)) (.slice A l0.length cap) (pre ++ t)) ∧ Aside0 (Kept w w' (fun k_ => P0_ k_)) ∧ Aside0 (Below w0.heap.size w0 w')) (fun v1 v5 w' => l0.length - (intOf v5).toNat)
  case atStart => exact ⟨0, a1, [], l0, r2, rfl, rfl, rfl, by omega, HF, ⟨rfl⟩, HO, HK, HB⟩
  case round =>
    clear HO HK HB HF
    obtain ⟨n, x1, pre, t, rest, rfl, rfl, hp, hl, HF, HR2, HO, HK, HB⟩ := hrel
    cases t with
    | nil =>
      have hn : n = l0.length := by simpa using hl
      subst hn
      have hf := HF.out
      unfold markRows at hf
      injection hf with hf
      injection hf with hf1 hf2
      subst hf1
      have e := HR2.out
      rw [← hf2, List.append_nil] at e
      have ho := HO.out
      rw [List.append_nil, ← e] at ho
      have HO' := Aside0.mk ho
      clear ho e HO HR2 HF hf2 hl
      go_wp2
      go_ret
      exact ⟨rfl, HO'.out, HB.out, HK.out⟩
    | cons x t =>
      obtain ⟨r', x', rest', hf, hg, rfl⟩ := markRows_cons HF.out
      have hlt : n < l0.length := by simp at hl; omega
      obtain ⟨g, cap', he, _, _, _⟩ := Kd.S_form HO.out (by rw [List.length_append, List.length_cons]; omega)
      have hlen : (pre ++ x :: t).length = l0.length := by simp at hl ⊢; omega
      injection he with hA hnn hcap
      clear hnn
      subst hA hcap
      subst hp
      obtain ⟨oki, A', c', hR, hcell, hok, hback⟩ := mg_lend HO.out
      have HRR := Aside0.mk hR
      have HF' := Aside0.mk hf
      have HG := Aside0.mk hg
      have HOK := Aside0.mk hok
      have HBK := Aside0.mk hback
      clear hR hf hg hok hback
      have hltb : decide ((pre.length : Int) < (l0.length : Int)) = true := decide_eq_true (by omega)
      have HL := Aside0.mk hl
      have HLT := Aside0.mk hlt
      clear hl hlen
      go_wp2_with (go_at_call 60; refine (laws_markInt8S.calls k oki _ x x1 r' x' w0 _ HB.out HRR.out HF'.out).mono ?_; rintro e w2 ⟨rfl, hR2, hB2, hK2⟩; have HS := Aside0.mk (HBK.out w2 x' _ hK2 hR2 (fun k_ hk_ => hk_.elim .inl (fun h_ => .inr ⟨.inr (Nat.le_trans HK.out.1 h_), h_⟩))); have HK2 := Aside0.mk (HK.out.then_ hK2 (fun k_ hk_ => HOK.out k_ hk_)); have HB2 := Aside0.mk hB2; clear hR2 hB2 hK2)
      exact ⟨⟨pre.length + 1, r', pre ++ [x'], t, rest', rfl, by go_num, by simp, by have hl := HL.out; simp at hl ⊢; omega, HG, ⟨by rw [HR2.out]; simp⟩, HS, HK2, HB2⟩, by have := HLT.out; simp [intOf]; omega⟩

theorem hg_two {wB w2 : World} {base : Nat} {okW okG : Nat → Prop} {u v : Value} {xs ys : List (List Int)} (hW : Kd.S (Kd.slice 72 (Kd.int .i8)) 70 wB base okW u xs) (hG : Kd.S (Kd.slice 72 (Kd.int .i8)) 70 w2 wB.heap.size okG v ys) (hb : Below wB.heap.size wB w2) (hle : base ≤ wB.heap.size) :
    ∃ N, Kd.S (Kd.slice 72 (Kd.int .i8)) 70 w2 base (fun k => k < N) u xs ∧ Kd.S (Kd.slice 72 (Kd.int .i8)) 70 w2 base (fun k => N ≤ k) v ys ∧ N ≤ w2.heap.size :=
  ⟨wB.heap.size, Kd.S_mono (Kd.S_below (Kd.S_bound hW) hb) (fun _ hk => hk.2.2.1), Kd.S_lower (Kd.S_mono (Kd.S_bound hG) (fun _ hk => hk.2.1)) hle, hb.size⟩
theorem hg_held (k : Nat) (A0 : Option Addr) (c0 n : Nat) (l0 : List (List Int)) (a1 : Int) (r : Int) (w : World) (hr0 : Kd.C (Kd.slice 72 (Kd.int .i8)) w A0 l0.length l0) (hc0 : n ≤ c0) (hn : n = l0.length) (h : laws_heldGame.f k l0 a1 = some r) :
    Calls Try.prog 23 #[.slice A0 n c0, .int .i64 a1] w fun e w' => e = .returned (.int .i64 r) ∧ Drawn0 w w' := by
  subst hn
  exact laws_heldGame.calls k A0 c0 l0 a1 r w hr0 hc0 h
set_option maxHeartbeats 800000 in
set_option maxRecDepth 100000 in
theorem hg_law (k : Nat) (a0 : Int) (G G' : List (List Int)) (er m : Int) (w : World) (hs : spec_HeapGame.f k a0 = some (G, er)) (hi : impl_HeapGame.f k a0 = some (G, er)) (he : laws_eqGame.f k G G = some true) (hm : laws_markGame.f k G 1 = some (m, G')) (hh : laws_heldGame.f k G' 1 = some m) (h0 : 0 ≤ m) :
    Calls Try.prog 4 #[.int .i64 a0] w fun e w' => e = .returned (.bool true) ∧ Below w.heap.size w w' := by
  have HS := Aside0.mk hs
  have HI := Aside0.mk hi
  have HE := Aside0.mk he
  have HM := Aside0.mk hm
  have HH := Aside0.mk hh
  have HB := Aside0.mk (Below.refl w.heap.size w)
  have hmb : decide (m < 0) = false := decide_eq_false (by omega)
  clear hs hi he hm hh h0
  go_enter Try.func4, Try.ntmps4
  go_wp2_with (first
    | (go_at_call 20; refine (spec_HeapGame.calls k a0 G er _ HS.out).mono ?_; rintro x w1 ⟨v0, rfl, hW, hb⟩; obtain ⟨AW, cW, rfl⟩ := Kd.S_slice hW; have HB1 := Aside0.mk (below_step (by repeat (first | (with_reducible first | exact HB.out | apply below_alloc | apply pw_below_drewN | apply below_drew1) | exact HB.out)) hb); have HW1 := Aside0.mk (Kd.S_lower hW (below_size (by repeat (first | (with_reducible first | exact HB.out | apply below_alloc | apply pw_below_drewN | apply below_drew1) | exact HB.out)))); clear HB hW hb)
    | (go_at_call 21; refine (impl_HeapGame.calls k a0 G er _ HI.out).mono ?_; rintro x w2 ⟨v1, rfl, hG, hb⟩; obtain ⟨AG, cG, rfl⟩ := Kd.S_slice hG; have HB2 := Aside0.mk (below_step (by repeat (first | (with_reducible first | exact HB1.out | apply below_alloc | apply pw_below_drewN | apply below_drew1) | exact HB1.out)) hb); obtain ⟨N, h1, h2, h3⟩ := hg_two (by (with_reducible repeat (first | apply Kd.S_alloc | apply Kd.S_drewN | apply Kd.S_drew)); exact HW1.out) hG hb (below_size (by repeat (first | (with_reducible first | exact HB1.out | apply below_alloc | apply pw_below_drewN | apply below_drew1) | exact HB1.out))); have HW2 := Aside0.mk h1; have HG2 := Aside0.mk h2; have HN := Aside0.mk h3; clear HB1 HW1 hG hb h1 h2 h3)
    | (go_at_call 19; refine (laws_eqGame.calls k _ _ G _ _ G true _ (by repeat (first | exact (Kd.S_reads' HG2.out).2.2 | (with_reducible refine Kd.C_alloc ?_ _) | (with_reducible refine Kd.C_drewN ?_ _) | (with_reducible refine Kd.C_drew ?_))) (Kd.S_reads' HG2.out).2.1 (by repeat (first | exact (Kd.S_reads' HW2.out).2.2 | (with_reducible refine Kd.C_alloc ?_ _) | (with_reducible refine Kd.C_drewN ?_ _) | (with_reducible refine Kd.C_drew ?_))) (Kd.S_reads' HW2.out).2.1 HE.out).mono ?_; rintro x w' ⟨rfl, ⟨nd, rfl⟩⟩)
    | (go_at_call 22; refine (laws_markGame.calls k (fun k_ => N ≤ k_) _ G 1 m G' w _ (by repeat (first | (with_reducible first | exact HB2.out | apply below_alloc | apply pw_below_drewN | apply below_drew1) | exact HB2.out)) (by (with_reducible repeat (first | apply Kd.S_alloc | apply Kd.S_drewN | apply Kd.S_drew)); exact HG2.out) HM.out).mono ?_; rintro x w3 ⟨rfl, hS, hb, hk⟩; have HB3 := Aside0.mk hb; have HW3 := Aside0.mk (Kd.S_kept (by (with_reducible repeat (first | apply Kd.S_alloc | apply Kd.S_drewN | apply Kd.S_drew)); exact HW2.out) hk (fun k_ h1 h2 => Nat.lt_irrefl _ (Nat.lt_of_lt_of_le h1 h2))); have HG3 := Aside0.mk (Kd.S_mono (ok' := fun k_ => N ≤ k_) hS (fun k_ h_ => h_.elim id (fun h2 => Nat.le_trans HN.out h2))); clear HB2 HW2 HG2 hS hb hk)
    | (go_at_call 23; refine (hg_held k AG cG _ G' 1 m _ (by repeat (first | exact (Kd.S_reads' HG3.out).2.2 | (with_reducible refine Kd.C_alloc ?_ _) | (with_reducible refine Kd.C_drewN ?_ _) | (with_reducible refine Kd.C_drew ?_))) (Kd.S_reads' HG3.out).2.1 (Kd.S_reads' HG3.out).1 HH.out).mono ?_; rintro x w' ⟨rfl, ⟨nd, rfl⟩⟩)
    | (go_at_call 21; refine (impl_HeapGame.calls k a0 G er _ HI.out).mono ?_; rintro x w4 ⟨v2, rfl, hH, hb⟩; obtain ⟨AH, cH, rfl⟩ := Kd.S_slice hH; have HB4 := Aside0.mk (below_step (by repeat (first | (with_reducible first | exact HB3.out | apply below_alloc | apply pw_below_drewN | apply below_drew1) | exact HB3.out)) hb); have HW4 := Aside0.mk (Kd.S_below (by (with_reducible repeat (first | apply Kd.S_alloc | apply Kd.S_drewN | apply Kd.S_drew)); exact HW3.out) hb); have HG4 := Aside0.mk (Kd.S_below (by (with_reducible repeat (first | apply Kd.S_alloc | apply Kd.S_drewN | apply Kd.S_drew)); exact HG3.out) hb); have HH4 := Aside0.mk hH; clear HB3 HW3 HG3 hH hb)
    | (go_at_call 19; refine (laws_eqGame.calls k _ _ G _ _ G true _ (by repeat (first | exact (Kd.S_reads' HH4.out).2.2 | (with_reducible refine Kd.C_alloc ?_ _) | (with_reducible refine Kd.C_drewN ?_ _) | (with_reducible refine Kd.C_drew ?_))) (Kd.S_reads' HH4.out).2.1 (by repeat (first | exact (Kd.S_reads' HW4.out).2.2 | (with_reducible refine Kd.C_alloc ?_ _) | (with_reducible refine Kd.C_drewN ?_ _) | (with_reducible refine Kd.C_drew ?_))) (Kd.S_reads' HW4.out).2.1 HE.out).mono ?_; rintro x w' ⟨rfl, ⟨nd, rfl⟩⟩)
    | (go_at_call 23; refine (hg_held k AG cG _ G' 1 m _ (by repeat (first | exact (Kd.S_reads' HG4.out).2.2 | (with_reducible refine Kd.C_alloc ?_ _) | (with_reducible refine Kd.C_drewN ?_ _) | (with_reducible refine Kd.C_drew ?_))) (Kd.S_reads' HG4.out).2.1 (Kd.S_reads' HG4.out).1 HH.out).mono ?_; rintro x w' ⟨rfl, ⟨nd, rfl⟩⟩))
  go_ret
  exact ⟨rfl, (by repeat (first | (with_reducible first | exact HB4.out | apply below_alloc | apply pw_below_drewN | apply below_drew1) | exact HB4.out))⟩

theorem markRows_ev : ∀ (g : List (List Int)) (a : Int), 0 ≤ a → a + tot g ≤ 9223372036854775806 → Ev (fun k => laws_markGame.f k g a) (a + tot g, mgRows a g) := by
  intro g
  unfold laws_markGame.f
  induction g with
  | nil => intro a _ _; exact Ev_as (Ev.now _) (by simp [tot, mgRows])
  | cons x t ih =>
    intro a ha hb
    have h0 := tot_pos t
    unfold tot at hb
    refine Ev.bind (markInt8S_ev x a ha (by omega)) (Ev.bind (ih (a + (x.length : Int)) (by omega) (by omega)) (Ev_as (Ev.now _) ?_))
    have e2 : a + tot (x :: t) = a + (x.length : Int) + tot t := by show a + ((x.length : Int) + tot t) = _; omega
    rw [e2]
    rfl

def laws_FnExactHeapGame.f (k : Nat) (a0 : Int) : Option Bool :=
  (spec_HeapGame.f k a0).bind fun s => (impl_HeapGame.f k a0).bind fun g => (laws_eqGame.f k s.1 s.1).bind fun e => (laws_markGame.f k s.1 1).bind fun m => (laws_heldGame.f k m.2 1).bind fun h =>
    if g = s ∧ e = true ∧ h = m.1 ∧ 0 ≤ h then some true else none
theorem laws_FnExactHeapGame.calls (k : Nat) (a0 : Int) (r : Bool) (w : World) (h : laws_FnExactHeapGame.f k a0 = some r) :
    Calls Try.prog 4 #[.int .i64 a0] w fun e w' => e = .returned (.bool r) ∧ Below w.heap.size w w' := by
  obtain ⟨⟨G, er⟩, h1, h⟩ := Option.bind_eq_some_iff.mp h
  obtain ⟨g, h2, h⟩ := Option.bind_eq_some_iff.mp h
  obtain ⟨e, h3, h⟩ := Option.bind_eq_some_iff.mp h
  obtain ⟨⟨m, G'⟩, h4, h⟩ := Option.bind_eq_some_iff.mp h
  obtain ⟨hh, h5, h⟩ := Option.bind_eq_some_iff.mp h
  by_cases c : g = (G, er) ∧ e = true ∧ hh = m ∧ 0 ≤ hh
  · rw [if_pos c] at h
    obtain rfl := Option.some.inj h
    obtain ⟨rfl, rfl, rfl, h0⟩ := c
    exact hg_law k a0 G G' er hh w h1 h2 h3 h4 h5 h0
  · rw [if_neg c] at h
    cases h
theorem tot_le : ∀ g : List (List Int), (∀ x ∈ g, x.length ≤ 1048576) → tot g ≤ 1048576 * (g.length : Int) := by
  intro g
  induction g with
  | nil => intro _; simp [tot]
  | cons x t ih =>
    intro h
    have h1 := h x (by simp)
    have h2 := ih (fun y hy => h y (by simp [hy]))
    unfold tot
    rw [List.length_cons]
    omega
theorem heapR_small (a : Int) : (heapR a).1.length ≤ 60 ∧ ∀ x ∈ (heapR a).1, x.length ≤ 60 := by
  unfold heapR
  by_cases c : 0 ≤ a ∧ a ≤ 59
  · rw [if_pos c]
    refine ⟨by simp [heapG]; omega, fun x hx => ?_⟩
    obtain ⟨i, hi, rfl⟩ := List.mem_map.1 hx
    have := List.mem_range.1 hi
    simp
    omega
  · rw [if_neg c]
    simp
theorem FnExactHeapGame (a : Int) (wa : (Lit.int .i64 a).wf = true) : ∃ k, laws_FnExactHeapGame.f k a = some true := by
  refine Ev.rounds (r := true) ?_
  have ha : -9223372036854775808 ≤ a ∧ a ≤ 9223372036854775807 := wf_i64 wa
  obtain ⟨hl, hr⟩ := heapR_small a
  have ht := tot_le (heapR a).1 (fun x hx => by have := hr x hx; omega)
  have hp := tot_pos (heapR a).1
  refine Ev.bind (spec_heap_f a ha) (Ev.bind (impl_heap_f a ha) (Ev.bind (eqGame_ev _ _ (by omega) (fun x hx => by have := hr x hx; omega)) (Ev.bind (markRows_ev _ 1 (by omega) (by omega)) (Ev.bind (heldGame_ev _ 1 (by omega) (by omega) (by omega)) ?_))))
  exact Ev_pos ⟨rfl, by simp, rfl, by omega⟩ (Ev.now _)

end Go.Proofs.Ytbhjkaiiebpopaa.Pure
