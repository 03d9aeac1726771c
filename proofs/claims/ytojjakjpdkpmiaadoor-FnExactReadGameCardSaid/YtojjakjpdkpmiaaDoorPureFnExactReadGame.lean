/- FnExactReadGame: the printed pure statement holds: at every input the law's function answers true; no condition but the bounds of its kinds. -/
import Derived.Test.YtojjakjpdkpmiaaDoorQFnExactReadGamex
import Derived.Test.YtojjakjpdkpmiaaDoorLib
import Derived.Test.YtojjakjpdkpmiaaDoorWKept
import Derived.Test.YtojjakjpdkpmiaaDoorWApart
import Derived.Test.YtojjakjpdkpmiaaDoorLib3
import Derived.Test.YtojjakjpdkpmiaaDoorWalkFnExactReadGame
set_option linter.unusedVariables false
set_option linter.unusedSimpArgs false
namespace Go.Proofs.YtojjakjpdkpmiaaDoor.Pure
open Go.RowKit Go.Proofs.YtojjakjpdkpmiaaDoor.QFnExactReadGame Go.Proofs.YtojjakjpdkpmiaaDoorW.PrintWords Go.Proofs.YtojjakjpdkpmiaaDoorW.PrintLast Go.Proofs.YtojjakjpdkpmiaaDoor.Lib Go.Proofs.YtojjakjpdkpmiaaDoor.WalkFnExactReadGame

theorem rdL2_nat {g : List (List Int)} {n : Nat} (h : n < g.length) : rd_L1 g (n : Int) = g[n] := by simp [rd_L1, List.getD_eq_getElem?_getD, List.getElem?_eq_getElem h]

theorem eqInt8S_ev (xs ys : List Int) (hn : xs.length ≤ 140737488355328) : Ev (fun k => laws_eqInt8S.f k xs ys) (decide (xs = ys)) :=
  eq_all (L := laws_eqInt8S.l0) (fun _ _ _ _ => rfl) xs ys (by omega)

theorem eqGame_ev (g h : List (List Int)) (hg : g.length ≤ 1048576) (hr : ∀ mv ∈ g, mv.length ≤ 1048576) : Ev (fun k => laws_eqGame.f k g h) (decide (g = h)) := by
  by_cases hl : g.length = h.length
  · have main : ∀ (d n : Nat), n + d = g.length → g.take n = h.take n → Ev (fun k => laws_eqGame.l0 k g h (n : Int)) (decide (g = h)) := by
      intro d
      induction d with
      | zero =>
        intro n h1 h3
        refine Ev_round ?_
        simp only [laws_eqGame.l0]
        refine Ev_neg (by omega) (Ev_as (Ev.now _) ?_)
        rw [List.take_of_length_le (by omega), List.take_of_length_le (by omega)] at h3
        simp [h3]
      | succ d ih =>
        intro n h1 h3
        have hn : n < g.length := by omega
        have hm : n < h.length := by omega
        refine Ev_round ?_
        simp only [laws_eqGame.l0]
        refine Ev_pos (by omega) (Ev_pos (by omega) (Ev_pos (by omega) ?_))
        rw [rdL2_nat hn, rdL2_nat hm, w64 (by omega) (by omega)]
        refine Ev.bind (eqInt8S_ev _ _ (by have := hr _ (List.getElem_mem hn); omega)) ?_
        by_cases e : g[n] = h[n]
        · refine Ev_pos (by simp [e]) (ih (n + 1) (by omega) ?_)
          rw [List.take_succ_eq_append_getElem hn, List.take_succ_eq_append_getElem hm, h3, e]
        · refine Ev_neg (by simp [e]) (Ev_as (Ev.now _) ?_)
          have : g ≠ h := fun x => e (by subst x; rfl)
          simp [this]
    exact Ev_pos (by omega) (main g.length 0 (by omega) (by simp))
  · refine Ev_neg (by omega) (Ev_as (Ev.now _) ?_)
    have : g ≠ h := fun e => hl (by rw [e])
    simp [this]

theorem spec_ok_ev (g : List (List Int)) (hl : g.length ≤ 2000000) (hr : ∀ mv ∈ g, mv.length ≤ 2000000 ∧ ∀ x ∈ mv, -128 ≤ x ∧ x ≤ 127) : Ev (fun k => spec_l03Ok.f k g) (validG g) := by
  have inner : ∀ (n : Nat) (hn : n < g.length) (r : Bool), Ev (fun k => spec_l03Ok.l0 k g ((n + 1 : Nat) : Int)) r →
      ∀ (d j : Nat) (p : Int), j + d = g[n].length → -1 ≤ p → p ≤ 127 → Ev (fun k => spec_l03Ok.l1 k g (n : Int) p (j : Int)) (okFrom n p (g[n].drop j) && r) := by
    intro n hn r hnext d
    have hmv := hr _ (List.getElem_mem hn)
    induction d with
    | zero =>
      intro j p h hp hp1
      obtain rfl : j = g[n].length := by omega
      refine Ev_round ?_
      simp only [spec_l03Ok.l1]
      rw [rdL2_nat hn]
      refine Ev_pos (by omega) (Ev_pos (by omega) (Ev_neg (by omega) ?_))
      rw [w64 (by omega) (by omega), List.drop_length]
      exact Ev_as hnext (by simp [okFrom])
    | succ d ih =>
      intro j p h hp hp1
      have hj : j < g[n].length := by omega
      have hx := hmv.2 _ (List.getElem_mem hj)
      refine Ev_round ?_
      simp only [spec_l03Ok.l1]
      rw [rdL2_nat hn]
      refine Ev_pos (by omega) (Ev_pos (by omega) (Ev_pos (by omega) (Ev_pos (by omega) ?_)))
      have e0 : wrap64 ((j : Int) + 1) = ((j + 1 : Nat) : Int) := by rw [w64 (by omega) (by omega)]; omega
      rw [List.drop_eq_getElem_cons hj, rd_nat hj, e0, w64 (x := g[n][j]) (by omega) (by omega), w64 (x := (n : Int) - 1) (by omega) (by omega), w64 (x := p + 1) (by omega) (by omega)]
      unfold spec_l00In.f
      by_cases c : p < g[n][j] ∧ 0 ≤ g[n][j] ∧ g[n][j] ≤ (n : Int) - 1
      · refine Ev_bind1 (if_pos (by omega)) (Ev_pos (by simp; omega) (Ev_as (ih (j + 1) _ (by omega) (by omega) (by omega)) ?_))
        simp [okFrom, c]
      · by_cases c0 : g[n][j] ≥ p + 1
        · refine Ev_bind1 (if_pos c0) (Ev_neg (by simp; omega) (Ev_as (Ev.now _) ?_))
          simp [okFrom, c]
        · refine Ev_bind1 (if_neg c0) (Ev_neg (by simp) (Ev_as (Ev.now _) ?_))
          simp [okFrom, c]
  have outer : ∀ (d n : Nat), n + d = g.length → Ev (fun k => spec_l03Ok.l0 k g (n : Int)) (okRows n (g.drop n) && decide (1 ≤ g.length ∧ g.length ≤ 60)) := by
    intro d
    induction d with
    | zero =>
      intro n h
      obtain rfl : n = g.length := by omega
      refine Ev_round ?_
      simp only [spec_l03Ok.l0]
      refine Ev_neg (by omega) ?_
      unfold spec_l00In.f
      rw [List.drop_length]
      by_cases c0 : (g.length : Int) ≥ 1
      · refine Ev_bind1 (if_pos c0) (Ev_as (Ev.now _) ?_)
        simp only [okRows, Bool.true_and]
        apply decide_eq_decide.2
        omega
      · refine Ev_bind1 (if_neg c0) (Ev_as (Ev.now _) ?_)
        simp [okRows]
        omega
    | succ d ih =>
      intro n h
      have hn : n < g.length := by omega
      refine Ev_round ?_
      simp only [spec_l03Ok.l0]
      refine Ev_pos (by omega) ?_
      rw [List.drop_eq_getElem_cons hn]
      refine Ev_as (inner n hn _ (ih (n + 1) (by omega)) g[n].length 0 (-1) (by omega) (by omega) (by omega)) ?_
      simp [okRows, Bool.and_assoc]
  exact Ev_as (outer g.length 0 (by omega)) (by simp [validG])

/-- The parts of a list between the bytes c; cur is what the part that is under way holds. -/
def cutL (c : UInt8) : List UInt8 → List UInt8 → List (List UInt8)
  | cur, [] => [cur]
  | cur, x :: t => if x = c then cur :: cutL c [] t else cutL c (cur ++ [x]) t
def mkB (l : List UInt8) : ByteArray := ⟨l.toArray⟩
theorem cutL_mem (c : UInt8) : ∀ (l cur : List UInt8), (∀ x ∈ cutL c cur l, x.length ≤ cur.length + l.length) ∧ (cutL c cur l).length ≤ l.length + 1 := by
  intro l
  induction l with
  | nil =>
    intro cur
    refine ⟨fun x hx => ?_, by simp [cutL]⟩
    simp only [cutL, List.mem_singleton] at hx
    subst hx
    simp
  | cons a t ih =>
    intro cur
    simp only [cutL]
    by_cases h : a = c
    · rw [if_pos h]
      obtain ⟨i1, i2⟩ := ih []
      refine ⟨fun x hx => ?_, by simp only [List.length_cons]; omega⟩
      rcases List.mem_cons.1 hx with hx | hx
      · subst hx; simp only [List.length_cons]; omega
      · have := i1 x hx
        simp only [List.length_cons, List.length_nil] at this ⊢
        omega
    · rw [if_neg h]
      obtain ⟨i1, i2⟩ := ih (cur ++ [a])
      refine ⟨fun x hx => ?_, by simp only [List.length_cons]; omega⟩
      have := i1 x hx
      simp only [List.length_cons, List.length_append, List.length_nil] at this ⊢
      omega
theorem extract_mk (s : ByteArray) (b e : Nat) : s.extract b e = mkB ((s.data.toList.drop b).take (e - b)) := by
  apply ByteArray.ext
  apply Array.toList_inj.1
  rw [ByteArray.data_extract, Array.toList_extract]
  rfl
theorem bt_list' (s : ByteArray) (i : Nat) (h : i < s.size) : bt s (i : Int) = ((s.data.toList[i]'(by simpa using h)).toNat : Int) := by
  unfold bt
  rw [Int.toNat_natCast, dif_pos h]
  rfl
theorem split_loop (s : ByteArray) (c : UInt8) (hs : s.size ≤ 1048576) : ∀ (d i b : Nat) (out : List ByteArray), i + d = s.size → b ≤ i → out.length ≤ i → Ev (fun k => spec_l01Split.l0 k s (c.toNat : Int) out (b : Int) (i : Int)) (out ++ (cutL c ((s.data.toList.drop b).take (i - b)) (s.data.toList.drop i)).map mkB) := by
  intro d
  have hl : s.data.toList.length = s.size := Array.length_toList
  induction d with
  | zero =>
    intro i b out h hb ho
    refine Ev_round ?_
    simp only [spec_l01Split.l0]
    rw [List.drop_of_length_le (show s.data.toList.length ≤ i by omega), Int.toNat_natCast]
    refine Ev_neg (by omega) (Ev_pos (by omega) (Ev_pos (by omega) (Ev_pos (by omega) (Ev_as (Ev.now _) ?_))))
    rw [show s.size = i by omega, extract_mk]
    rfl
  | succ d ih =>
    intro i b out h hb ho
    refine Ev_round ?_
    simp only [spec_l01Split.l0]
    have hi : i < s.size := by omega
    rw [bt_list' s i hi, List.drop_eq_getElem_cons (show i < s.data.toList.length by omega), w64 (by omega) (by omega), Int.toNat_natCast, Int.toNat_natCast, extract_mk]
    refine Ev_pos (by omega) (Ev_pos (by omega) ?_)
    simp only [cutL]
    by_cases hc : s.data.toList[i]'(by omega) = c
    · rw [if_pos hc]
      refine Ev_pos (by rw [hc]) (Ev_pos (by omega) (Ev_pos (by omega) (Ev_pos (by omega) (Ev_pos (by omega) ?_))))
      have := ih (i + 1) (i + 1) (out ++ [mkB ((s.data.toList.drop b).take (i - b))]) (by omega) (by omega) (by simp; omega)
      rw [Nat.sub_self, List.take_zero] at this
      refine Ev_as this ?_
      simp
    · rw [if_neg hc]
      have hne : ¬ ((s.data.toList[i]'(by omega)).toNat : Int) = (c.toNat : Int) := fun e => hc (UInt8.toNat_inj.1 (by omega))
      refine Ev_neg hne ?_
      have := ih (i + 1) b out (by omega) (by omega) (by omega)
      rw [show i + 1 - b = (i - b) + 1 by omega, List.take_succ_eq_append_getElem (by rw [List.length_drop]; omega), List.getElem_drop] at this
      simp only [show b + (i - b) = i by omega] at this
      exact this
theorem split_spec (s : ByteArray) (c : UInt8) (hs : s.size ≤ 1048576) : Ev (fun k => spec_l01Split.f k s (c.toNat : Int)) ((cutL c [] s.data.toList).map mkB) := by
  have := split_loop s c hs s.size 0 0 [] (by omega) (by omega) (by simp)
  simp only [List.drop_zero, Nat.sub_self, List.take_zero, List.nil_append] at this
  exact this

def dig (c : UInt8) : Bool := decide (48 ≤ c.toNat) && decide (c.toNat ≤ 57)
def valF (l : List UInt8) (a : Nat) : Nat := l.foldl (fun a c => a * 10 + (c.toNat - 48)) a
theorem valF_cons (c : UInt8) (l : List UInt8) (a : Nat) : valF (c :: l) a = valF l (a * 10 + (c.toNat - 48)) := by
  unfold valF
  rw [List.foldl_cons]
theorem valF_snoc (l : List UInt8) (c : UInt8) (a : Nat) : valF (l ++ [c]) a = valF l a * 10 + (c.toNat - 48) := by simp [valF, List.foldl_append]
theorem digit_nat (k : Nat) (h : k < 10) : (UInt8.ofNat (48 + k)).toNat = 48 + k := by
  have : 48 + k < 256 := by omega
  exact UInt8.toNat_ofNat_of_lt' this
theorem head_app {l r : List UInt8} (h : l ≠ []) : (l ++ r).head? = l.head? := by
  obtain ⟨x, t, rfl⟩ := List.exists_cons_of_ne_nil h
  rfl
theorem dec_step {n : Nat} (h : ¬ n < 10) : Go.Lib.decDigits n = Go.Lib.decDigits (n / 10) ++ [UInt8.ofNat (48 + n % 10)] := by
  rw [Go.Lib.decDigits, dif_neg h]
theorem dec_ne (n : Nat) : Go.Lib.decDigits n ≠ [] := by
  by_cases h : n < 10
  · rw [Go.Lib.decDigits_one h]; simp
  · rw [dec_step h]; simp
theorem dec_dig (n : Nat) : ∀ c ∈ Go.Lib.decDigits n, dig c = true := by
  induction n using Nat.strongRecOn with
  | ind n ih =>
    intro c hc
    by_cases h : n < 10
    · rw [Go.Lib.decDigits_one h, List.mem_singleton] at hc
      subst hc
      unfold dig
      rw [digit_nat n h]
      simp
      omega
    · rw [dec_step h] at hc
      rcases List.mem_append.1 hc with hc | hc
      · exact ih (n / 10) (by omega) c hc
      · rw [List.mem_singleton] at hc
        subst hc
        unfold dig
        rw [digit_nat _ (by omega)]
        simp
        omega
theorem dec_val (n : Nat) : valF (Go.Lib.decDigits n) 0 = n := by
  induction n using Nat.strongRecOn with
  | ind n ih =>
    by_cases h : n < 10
    · rw [Go.Lib.decDigits_one h, valF_cons, digit_nat n h]
      show 0 * 10 + (48 + n - 48) = n
      omega
    · rw [dec_step h, valF_snoc, ih (n / 10) (by omega), digit_nat _ (by omega)]
      omega
theorem dec_inj {a b : Nat} (h : Go.Lib.decDigits a = Go.Lib.decDigits b) : a = b := by
  have := congrArg (fun l => valF l 0) h
  simpa [dec_val] using this
theorem dec_head (n : Nat) : 10 ≤ n → (Go.Lib.decDigits n).head? ≠ some 48 := by
  induction n using Nat.strongRecOn with
  | ind n ih =>
    intro h
    rw [dec_step (by omega)]
    have hne := dec_ne (n / 10)
    rw [head_app hne]
    by_cases h2 : n / 10 < 10
    · rw [Go.Lib.decDigits_one h2]
      intro e
      have e2 := Option.some.inj e
      have := congrArg UInt8.toNat e2
      rw [digit_nat _ h2] at this
      have h48 : (48 : UInt8).toNat = 48 := rfl
      omega
    · exact ih (n / 10) (by omega) (by omega)
theorem dec_len : ∀ (k n : Nat), n < 10 ^ (k + 1) → (Go.Lib.decDigits n).length ≤ k + 1 := by
  intro k
  induction k with
  | zero =>
    intro n h
    rw [Go.Lib.decDigits_one (by omega)]
    simp
  | succ k ih =>
    intro n h
    by_cases h2 : n < 10
    · rw [Go.Lib.decDigits_one h2]; simp
    · rw [dec_step h2, List.length_append]
      have := ih (n / 10) (by rw [Nat.pow_succ] at h; omega)
      simp only [List.length_singleton]
      omega
theorem val_lt : ∀ (l : List UInt8) (a b : Nat), (∀ c ∈ l, dig c = true) → a < 10 ^ b → valF l a < 10 ^ (b + l.length) := by
  intro l
  induction l with
  | nil => intro a b _ h; exact h
  | cons c t ih =>
    intro a b hd h
    have hc := hd c (List.mem_cons_self ..)
    unfold dig at hc
    simp only [Bool.and_eq_true, decide_eq_true_eq] at hc
    rw [valF_cons, List.length_cons, show b + (t.length + 1) = (b + 1) + t.length by omega]
    refine ih _ (b + 1) (fun x hx => hd x (List.mem_cons_of_mem _ hx)) ?_
    rw [Nat.pow_succ]
    omega
theorem canon : ∀ (n : Nat) (l : List UInt8), l.length = n + 1 → (∀ c ∈ l, dig c = true) → (n = 0 ∨ l.head? ≠ some 48) → Go.Lib.decDigits (valF l 0) = l := by
  intro n
  induction n with
  | zero =>
    intro l hl hd _
    match l, hl with
    | [c], _ =>
      have hc := hd c (List.mem_cons_self ..)
      unfold dig at hc
      simp only [Bool.and_eq_true, decide_eq_true_eq] at hc
      have e : valF [c] 0 = c.toNat - 48 := by
        show 0 * 10 + (c.toNat - 48) = _
        omega
      rw [e, Go.Lib.decDigits_one (by omega), show 48 + (c.toNat - 48) = c.toNat by omega, UInt8.ofNat_toNat]
  | succ n ih =>
    intro l hl hd hh
    have hne : l ≠ [] := by intro e; rw [e] at hl; simp at hl
    have e := List.dropLast_concat_getLast hne
    generalize hd1 : l.dropLast = l' at *
    generalize l.getLast hne = c at *
    have hl' : l'.length = n + 1 := by
      have := congrArg List.length e
      rw [List.length_append, List.length_singleton] at this
      omega
    have hne' : l' ≠ [] := by intro e2; rw [e2] at hl'; simp at hl'
    have hhead : l'.head? ≠ some 48 := by
      rcases hh with hh | hh
      · omega
      · rw [← e, head_app hne'] at hh
        exact hh
    have hdl : ∀ x ∈ l', dig x = true := fun x hx => hd x (by rw [← e]; exact List.mem_append_left _ hx)
    have hc := hd c (by rw [← e]; simp)
    unfold dig at hc
    simp only [Bool.and_eq_true, decide_eq_true_eq] at hc
    have i := ih l' hl' hdl (.inr hhead)
    have hv : valF l' 0 ≠ 0 := by
      intro hz
      rw [hz, Go.Lib.decDigits_one (by omega)] at i
      rw [← i] at hhead
      exact hhead rfl
    rw [← e, valF_snoc, dec_step (by omega), show (valF l' 0 * 10 + (c.toNat - 48)) / 10 = valF l' 0 by omega, i, show (valF l' 0 * 10 + (c.toNat - 48)) % 10 = c.toNat - 48 by omega, show 48 + (c.toNat - 48) = c.toNat by omega, UInt8.ofNat_toNat]
theorem bt_list (s : ByteArray) (i : Nat) (h : i < s.size) : bt s (i : Int) = ((s.data.toList[i]'(by simpa using h)).toNat : Int) := by
  unfold bt
  rw [Int.toNat_natCast, dif_pos h]
  rfl
theorem num_loop (s : ByteArray) (hs : s.size ≤ 10) : ∀ (d i acc : Nat), i + d = s.size → acc < 10 ^ i → Ev (fun k => spec_l01Number.l0 k s (acc : Int) (i : Int)) (if (s.data.toList.drop i).all dig = true then ((valF (s.data.toList.drop i) acc : Nat), true) else ((0 : Int), false)) := by
  intro d
  induction d with
  | zero =>
    intro i acc h ha
    refine Ev_round ?_
    simp only [spec_l01Number.l0]
    have hl : s.data.toList.length = s.size := Array.length_toList
    rw [List.drop_of_length_le (by omega)]
    exact Ev_neg (by omega) (Ev.now _)
  | succ d ih =>
    intro i acc h ha
    refine Ev_round ?_
    simp only [spec_l01Number.l0]
    have hl : s.data.toList.length = s.size := Array.length_toList
    have hi : i < s.size := by omega
    refine Ev_pos (by omega) (Ev_pos (by omega) ?_)
    rw [bt_list s i hi, List.drop_eq_getElem_cons (by omega)]
    generalize s.data.toList[i]'(by omega) = c at *
    rw [List.all_cons, valF_cons]
    have hb : c.toNat < 256 := c.toNat_lt
    have hp : 10 ^ i ≤ 10 ^ 9 := Nat.pow_le_pow_right (by omega) (by omega)
    by_cases h1 : c.toNat < 48
    · have : dig c = false := by unfold dig; simp; omega
      rw [this]
      exact Ev_pos (by omega) (Ev.now _)
    · refine Ev_neg (by omega) ?_
      by_cases h2 : 57 < c.toNat
      · have : dig c = false := by unfold dig; simp; omega
        rw [this]
        exact Ev_pos (by omega) (Ev.now _)
      · have : dig c = true := by unfold dig; simp; omega
        rw [this, Bool.true_and]
        refine Ev_neg (by omega) ?_
        rw [w64 (x := 10 * (acc : Int)) (by omega) (by omega), w64 (x := (i : Int) + 1) (by omega) (by omega), w64 (by omega) (by omega)]
        rw [show (10 * (acc : Int) + ((c.toNat : Int) - 48) % 256) = ((acc * 10 + (c.toNat - 48) : Nat) : Int) by omega]
        exact ih (i + 1) (acc * 10 + (c.toNat - 48)) (by omega) (by rw [Nat.pow_succ]; omega)
/-- The reference reads just the decimal numerals of at most ten digits. -/
theorem num_spec (s : ByteArray) (hs : s.size ≤ 9223372036854775807) : ∃ o : Option Nat, (∀ n, o = some n ↔ (s.data.toList = Go.Lib.decDigits n ∧ n < 10 ^ 10)) ∧ Ev (fun k => spec_l01Number.f k s) (match o with | some n => ((n : Int), true) | none => (0, false)) := by
  have hl : s.data.toList.length = s.size := Array.length_toList
  have hdt := Go.Lib.toList_data s
  have J : Ev (fun k => spec_l01Number.j0 k s true) (0, false) := by
    refine Ev_round ?_
    simp only [spec_l01Number.j0]
    exact Ev_pos (by trivial) (Ev.now _)
  have no : (∀ n, n < 10 ^ 10 → s.data.toList ≠ Go.Lib.decDigits n) → ∀ n, (none : Option Nat) = some n ↔ (s.data.toList = Go.Lib.decDigits n ∧ n < 10 ^ 10) :=
    fun h n => ⟨fun e => by simp at e, fun e => absurd e.1 (h n e.2)⟩
  unfold spec_l01Number.f
  by_cases c0 : s.toList = []
  · refine ⟨none, no (fun n _ e => ?_), Ev_pos c0 J⟩
    rw [hdt] at c0
    rw [c0] at e
    exact dec_ne n e.symm
  · have hne : s.data.toList ≠ [] := by rw [← hdt]; exact c0
    have hpos : 0 < s.size := by rw [← hl]; exact List.length_pos_iff.2 hne
    by_cases c1 : s.size ≤ 10
    · have hb0 := bt_list s 0 hpos
      rw [show ((0 : Nat) : Int) = 0 from rfl] at hb0
      have hhead : s.data.toList.head? = some (s.data.toList[0]'(by omega)) := by rw [List.head?_eq_getElem?, List.getElem?_eq_getElem]
      by_cases c2 : (s.data.toList[0]'(by omega)).toNat = 48 ∧ 1 < s.size
      · refine ⟨none, no (fun n hn e => ?_), Ev_neg c0 (Ev_neg (by omega) (Ev_pos (by omega) (Ev_pos (by rw [hb0]; omega) ?_)))⟩
        · have hn10 : 10 ≤ n := by
            rcases Nat.lt_or_ge n 10 with q | q
            · rw [Go.Lib.decDigits_one q] at e
              rw [e] at hl
              simp at hl
              omega
            · exact q
          have := dec_head n hn10
          rw [← e, hhead] at this
          apply this
          congr 1
          apply UInt8.toNat_inj.1
          rw [c2.1]
          rfl
        · have : decide ((s.size : Int) > 1) = true := by simp; omega
          rw [this]
          exact J
      · have hgo : Ev (fun k => spec_l01Number.j0 k s false) (if (s.data.toList.drop 0).all dig = true then ((valF (s.data.toList.drop 0) 0 : Nat), true) else ((0 : Int), false)) := by
          refine Ev_round ?_
          simp only [spec_l01Number.j0]
          exact Ev_neg (by simp) (num_loop s c1 s.size 0 0 (by omega) (by omega))
        have hgo2 : Ev (fun k => if s.toList = ([] : List UInt8) then (spec_l01Number.j0 k s true) else (if (s.size : Int) > 10 then (spec_l01Number.j0 k s true) else (if 0 < (s.size : Int) then (if (bt s 0) = 48 then (spec_l01Number.j0 k s (decide ((s.size : Int) > 1))) else (spec_l01Number.j0 k s false)) else (none)))) (if (s.data.toList.drop 0).all dig = true then ((valF (s.data.toList.drop 0) 0 : Nat), true) else ((0 : Int), false)) := by
          refine Ev_neg c0 (Ev_neg (by omega) (Ev_pos (by omega) ?_))
          by_cases c3 : bt s 0 = 48
          · refine Ev_pos c3 ?_
            have : decide ((s.size : Int) > 1) = false := by
              apply decide_eq_false
              intro hh
              exact c2 ⟨by rw [hb0] at c3; omega, by omega⟩
            rw [this]
            exact hgo
          · exact Ev_neg c3 hgo
        rw [List.drop_zero] at hgo2
        by_cases ca : s.data.toList.all dig = true
        · rw [if_pos ca] at hgo2
          have hd : ∀ c ∈ s.data.toList, dig c = true := fun c hc => List.all_eq_true.1 ca c hc
          have hcan : Go.Lib.decDigits (valF s.data.toList 0) = s.data.toList := by
            refine canon (s.size - 1) _ (by omega) hd ?_
            rcases Nat.lt_or_ge 1 s.size with q | q
            · right
              rw [hhead]
              intro e
              refine c2 ⟨?_, q⟩
              rw [Option.some.inj e]
              rfl
            · left; omega
          have hlt : valF s.data.toList 0 < 10 ^ 10 := by
            have := val_lt s.data.toList 0 0 hd (by omega)
            refine Nat.lt_of_lt_of_le this (Nat.pow_le_pow_right (by omega) (by omega))
          refine ⟨some (valF s.data.toList 0), fun n => ⟨fun e => ?_, fun e => ?_⟩, hgo2⟩
          · rw [← Option.some.inj e]
            exact ⟨hcan.symm, hlt⟩
          · rw [← hcan] at e
            exact congrArg some (dec_inj e.1)
        · rw [if_neg ca] at hgo2
          refine ⟨none, no (fun n _ e => ?_), hgo2⟩
          apply ca
          rw [e]
          exact List.all_eq_true.2 (dec_dig n)
    · refine ⟨none, no (fun n hn e => ?_), Ev_neg c0 (Ev_pos (by omega) J)⟩
      have := dec_len 9 n hn
      rw [← e] at this
      omega

theorem impl_valid_ev (g : List (List Int)) (hl : g.length ≤ 2000000) (hr : ∀ mv ∈ g, mv.length ≤ 2000000 ∧ ∀ x ∈ mv, -128 ≤ x ∧ x ≤ 127) : Ev (fun k => impl_ValidGame.f k g) (validG g) := by
  -- the moves of one place, from one of them on
  have inner : ∀ (n : Nat) (hn : n < g.length) (r : Bool), Ev (fun k => impl_ValidGame.l0 k g g g.length ((n + 1 : Nat) : Int)) r →
      ∀ (d j : Nat) (p : Int), j + d = g[n].length → (j = 0 → p = -1) → (∀ h : 0 < j, ∀ h' : j - 1 < g[n].length, p = g[n][j - 1]) → -1 ≤ p →
        Ev (fun k => impl_ValidGame.l1 k g (n : Int) g[n] g g.length (n : Int) g[n] g[n].length (j : Int)) (okFrom n p (g[n].drop j) && r) := by
    intro n hn r hnext d
    have hmv := hr _ (List.getElem_mem hn)
    induction d with
    | zero =>
      intro j p h _ _ _
      obtain rfl : j = g[n].length := by omega
      refine Ev_round ?_
      simp only [impl_ValidGame.l1]
      refine Ev_neg (by omega) ?_
      rw [w64 (by omega) (by omega), List.drop_length]
      exact Ev_as hnext (by simp [okFrom])
    | succ d ih =>
      intro j p h h0 h1 hp
      have hj : j < g[n].length := by omega
      have hx := hmv.2 _ (List.getElem_mem hj)
      refine Ev_round ?_
      simp only [impl_ValidGame.l1]
      refine Ev_pos (by omega) (Ev_pos (by omega) (Ev_pos (by omega) ?_))
      rw [List.drop_eq_getElem_cons hj, rd_nat hj, w64 (by omega) (by omega), w64 (x := (n : Int) - 1) (by omega) (by omega)]
      unfold impl_within.f
      by_cases c0 : 0 ≤ g[n][j]
      · by_cases c1 : g[n][j] ≤ (n : Int) - 1
        · refine Ev_bind1 (if_pos c0) (Ev_pos (by simpa using c1) ?_)
          have e0 : wrap64 ((j : Int) + 1) = ((j + 1 : Nat) : Int) := by rw [w64 (by omega) (by omega)]; omega
          rw [e0]
          by_cases cj : (j : Int) > 0
          · have e1 : wrap64 ((j : Int) - 1) = ((j - 1 : Nat) : Int) := by rw [w64 (by omega) (by omega)]; omega
            rw [e1]
            refine Ev_pos cj (Ev_pos (by omega) (Ev_pos (by omega) ?_))
            rw [rd_nat (show j - 1 < g[n].length by omega)]
            have hpp := h1 (by omega) (by omega)
            by_cases c2 : g[n][j] ≤ g[n][j - 1]'(by omega)
            · refine Ev_pos c2 (Ev_as (Ev.now _) ?_)
              have : ¬ (p < g[n][j] ∧ 0 ≤ g[n][j] ∧ g[n][j] ≤ (n : Int) - 1) := by omega
              simp [okFrom, this]
            · refine Ev_neg c2 (Ev_as (ih (j + 1) g[n][j] (by omega) (by omega) (fun _ _ => by simp) (by omega)) ?_)
              have : p < g[n][j] ∧ 0 ≤ g[n][j] ∧ g[n][j] ≤ (n : Int) - 1 := by omega
              simp [okFrom, this]
          · refine Ev_neg cj (Ev_as (ih (j + 1) g[n][j] (by omega) (by omega) (fun _ _ => by simp) (by omega)) ?_)
            have hp0 := h0 (by omega)
            have : p < g[n][j] ∧ 0 ≤ g[n][j] ∧ g[n][j] ≤ (n : Int) - 1 := by omega
            simp [okFrom, this]
        · refine Ev_bind1 (if_pos c0) (Ev_neg (by simpa using c1) (Ev_as (Ev.now _) ?_))
          have : ¬ (p < g[n][j] ∧ 0 ≤ g[n][j] ∧ g[n][j] ≤ (n : Int) - 1) := by omega
          simp [okFrom, this]
      · refine Ev_bind1 (if_neg c0) (Ev_neg (by simp) (Ev_as (Ev.now _) ?_))
        have : ¬ (p < g[n][j] ∧ 0 ≤ g[n][j] ∧ g[n][j] ≤ (n : Int) - 1) := by omega
        simp [okFrom, this]
  have outer : ∀ (d n : Nat), n + d = g.length → Ev (fun k => impl_ValidGame.l0 k g g g.length (n : Int)) (okRows n (g.drop n) && decide (1 ≤ g.length ∧ g.length ≤ 60)) := by
    intro d
    induction d with
    | zero =>
      intro n h
      obtain rfl : n = g.length := by omega
      refine Ev_round ?_
      simp only [impl_ValidGame.l0]
      refine Ev_neg (by omega) ?_
      unfold impl_within.f
      rw [List.drop_length]
      by_cases c0 : 1 ≤ (g.length : Int)
      · refine Ev_bind1 (if_pos c0) (Ev_as (Ev.now _) ?_)
        simp only [okRows, Bool.true_and]
        apply decide_eq_decide.2
        omega
      · refine Ev_bind1 (if_neg c0) (Ev_as (Ev.now _) ?_)
        simp [okRows]
        omega
    | succ d ih =>
      intro n h
      have hn : n < g.length := by omega
      refine Ev_round ?_
      simp only [impl_ValidGame.l0]
      refine Ev_pos (by omega) (Ev_pos (by omega) (Ev_pos (by omega) ?_))
      rw [rdL2_nat hn, List.drop_eq_getElem_cons hn]
      refine Ev_as (inner n hn _ (ih (n + 1) (by omega)) g[n].length 0 (-1) (by omega) (fun _ => rfl) (fun h _ => by omega) (by omega)) ?_
      simp [okRows, Bool.and_assoc]
  exact Ev_as (outer g.length 0 (by omega)) (by simp [validG])

/-! The decimal text is not asked for by itself. -/

theorem parse_dig : ∀ (l : List UInt8) (a : Nat), (∀ c ∈ l, dig c = true) → valF l a < 1844674407370955162 → Go.Lib.parseUintM 18446744073709551615 a l = .ok (valF l a) ∧ a ≤ valF l a := by
  intro l
  induction l with
  | nil => intro a _ _; exact ⟨rfl, Nat.le_refl _⟩
  | cons c t ih =>
    intro a hd hv
    have hc := hd c (List.mem_cons_self ..)
    unfold dig at hc
    simp only [Bool.and_eq_true, decide_eq_true_eq] at hc
    rw [valF_cons] at hv ⊢
    obtain ⟨i1, i2⟩ := ih _ (fun x hx => hd x (List.mem_cons_of_mem _ hx)) hv
    refine ⟨?_, by omega⟩
    simp only [Go.Lib.parseUintM]
    rw [if_pos hc, if_neg (by omega), if_neg (by omega)]
    exact i1
theorem parse_dec (n : Nat) (h : n < 10000000000) : Go.Lib.parseIntB 64 (Go.Lib.decDigits n) = .ok (n : Int) := by
  have hd := dec_dig n
  have hv := dec_val n
  have hp := (parse_dig (Go.Lib.decDigits n) 0 hd (by rw [hv]; omega)).1
  rw [hv] at hp
  have hne := dec_ne n
  generalize Go.Lib.decDigits n = l at *
  match l, hne with
  | c :: r, _ =>
    have hc := hd c (List.mem_cons_self ..)
    unfold dig at hc
    simp only [Bool.and_eq_true, decide_eq_true_eq] at hc
    have hu : Go.Lib.parseUintB 64 (c :: r) = .ok n := by
      unfold Go.Lib.parseUintB
      rw [if_neg (by simp)]
      exact hp
    unfold Go.Lib.parseIntB
    simp only
    rw [if_neg (by omega), hu]
    simp only
    rw [if_neg (by omega), if_neg (by omega), if_neg (by omega)]
theorem numR_some (n high : Nat) (h : n ≤ high) (hh : high < 10000000000) : numR (Go.Lib.decDigits n) (high : Int) = (n : Int) := by
  unfold numR
  rw [parse_dec n (by omega)]
  simp only
  refine if_pos ⟨by omega, by omega, ?_⟩
  unfold Go.Lib.itoa
  rw [if_neg (by omega), Int.toNat_natCast]
theorem numR_none (l : List UInt8) (high : Nat) (h : ∀ n, n ≤ high → l ≠ Go.Lib.decDigits n) : numR l (high : Int) = -1 := by
  unfold numR
  split
  · rename_i v hv
    refine if_neg (fun hc => ?_)
    obtain ⟨c1, c2, c3⟩ := hc
    refine h v.toNat (by omega) ?_
    rw [← c3]
    unfold Go.Lib.itoa
    rw [if_neg (by omega)]
  · rfl
/-- Both sides read a number up to a bound. -/
theorem number_both (s : ByteArray) (hs : s.size ≤ 281474976710656) (high : Nat) (hh : high < 10000000000) : ∃ o : Option Nat, Ev (fun k => spec_l01Number.f k s) (match o with | some n => ((n : Int), true) | none => (0, false)) ∧ (∀ n, o = some n → n < 10000000000) ∧
    impl_number.f s (high : Int) = some (match o with | some n => if n ≤ high then (n : Int) else -1 | none => -1) := by
  obtain ⟨o, ho, hev⟩ := num_spec s (by omega)
  refine ⟨o, hev, fun n hn => ((ho n).1 hn).2, ?_⟩
  unfold impl_number.f
  rw [if_pos hs]
  refine congrArg some ?_
  cases o with
  | none =>
    refine numR_none _ _ (fun n hn e => ?_)
    have := (ho n).2 ⟨e, by omega⟩
    simp at this
  | some n =>
    obtain ⟨e, hn⟩ := (ho n).1 rfl
    simp only
    rw [e]
    by_cases c : n ≤ high
    · rw [if_pos c]
      exact numR_some n high c hh
    · rw [if_neg c]
      refine numR_none _ _ (fun m hm e2 => ?_)
      have := dec_inj e2
      omega

theorem index_cut (c : UInt8) : ∀ (cur t : List UInt8), c ∉ cur → Go.Lib.index (cur ++ c :: t) [c] = (cur.length : Int) := by
  intro cur
  induction cur with
  | nil =>
    intro t _
    simp [Go.Lib.index, List.isPrefixOf]
  | cons a r ih =>
    intro t h
    have hne : (c == a) = false := by simp; intro e; exact h (by rw [e]; simp)
    have i := ih t (fun e => h (List.mem_cons_of_mem _ e))
    simp only [List.cons_append, Go.Lib.index]
    rw [i]
    simp [List.isPrefixOf, hne] <;> omega
theorem index_none (c : UInt8) : ∀ (l : List UInt8), c ∉ l → Go.Lib.index l [c] = -1 := by
  intro l
  induction l with
  | nil => intro _; simp [Go.Lib.index]
  | cons a r ih =>
    intro h
    have hne : (c == a) = false := by simp; intro e; exact h (by rw [e]; simp)
    have i := ih (fun e => h (List.mem_cons_of_mem _ e))
    simp only [Go.Lib.index]
    rw [i]
    simp [List.isPrefixOf, hne]
theorem split_cut (c : UInt8) : ∀ (l cur : List UInt8), c ∉ cur → Go.Lib.splitK [c] 0 (Go.Lib.count (cur ++ l) [c]) (cur ++ l) = cutL c cur l := by
  intro l
  induction l with
  | nil =>
    intro cur h
    rw [List.append_nil, Go.Lib.count_miss (index_none c cur h)]
    rfl
  | cons x t ih =>
    intro cur h
    simp only [cutL]
    by_cases hx : x = c
    · subst hx
      rw [if_pos rfl]
      have hi := index_cut x cur t h
      rw [Go.Lib.count_hit (by simp) hi, Nat.add_comm 1]
      simp only [Go.Lib.splitK]
      rw [hi, Int.toNat_natCast]
      have hne : (((cur.length : Nat) : Int) == -1) = false := by first | (simp; done) | (simp; omega)
      rw [if_neg (by rw [hne]; simp)]
      have hd : (cur ++ x :: t).drop (cur.length + [x].length) = t := by simp
      have ht : (cur ++ x :: t).take (cur.length + 0) = cur := by simp
      rw [hd, ht]
      have := ih [] (by simp)
      rw [List.nil_append] at this
      rw [this]
    · rw [if_neg hx]
      have := ih (cur ++ [x]) (by simp; exact ⟨h, fun e => hx e.symm⟩)
      rw [List.append_assoc] at this
      exact this
theorem splitS_cut (s : ByteArray) (c : UInt8) : splitS s (⟨#[c]⟩ : ByteArray) = (cutL c [] s.data.toList).map mkB := by
  have h1 := Go.Lib.splitB_data (⟨#[c]⟩ : ByteArray) 0 (Go.Lib.countB s (⟨#[c]⟩ : ByteArray)) s
  have h2 := split_cut c s.data.toList [] (by simp)
  rw [List.nil_append] at h2
  have h3 : (splitS s (⟨#[c]⟩ : ByteArray)).map (·.data.toList) = cutL c [] s.data.toList := h1.trans h2
  rw [← h3, List.map_map]
  conv => lhs; rw [← List.map_id (splitS s (⟨#[c]⟩ : ByteArray))]
  apply List.map_congr_left
  intro x _
  exact ByteArray.ext (by simp [mkB])

theorem markInt8S_ev (xs : List Int) (a : Int) (ha : 0 ≤ a) (hb : a + (xs.length : Int) ≤ 9223372036854775806) : Ev (fun k => laws_markInt8S.f k xs a) (a + (xs.length : Int), markG .i8 a xs.length) := by
  have h := mark_loop (L := laws_markInt8S.l0) (K := .i8) (fun _ _ _ _ => rfl) a xs.length ha hb xs.length 0 xs (by omega) rfl (by simp)
  have e : a + ((0 : Nat) : Int) = a := by omega
  rw [e] at h
  exact h

theorem heldInt8S_ev (a : Int) (N : Nat) (ha : 0 ≤ a) (hb : a + (N : Int) ≤ 9223372036854775806) : Ev (fun k => laws_heldInt8S.f k (markG .i8 a N) a) (a + (N : Int)) := by
  have h := held_loop (L := laws_heldInt8S.l0) (K := .i8) (fun _ _ _ _ => rfl) a N ha hb N 0 (by omega)
  have e : a + ((0 : Nat) : Int) = a := by omega
  rw [e] at h
  exact h
/-- How many numbers a game has; what it holds when it was marked from a on. -/
def tot : List (List Int) → Int
  | [] => 0
  | x :: t => (x.length : Int) + tot t
def mgRows : Int → List (List Int) → List (List Int)
  | _, [] => []
  | a, x :: t => markG .i8 a x.length :: mgRows (a + (x.length : Int)) t
theorem tot_pos : ∀ g : List (List Int), 0 ≤ tot g := by
  intro g
  induction g with
  | nil => simp [tot]
  | cons x t ih => unfold tot; omega

theorem heldGame_go : ∀ (t pre : List (List Int)) (a : Int), 0 ≤ a → a + tot t ≤ 9223372036854775806 → (pre.length : Int) + (t.length : Int) ≤ 9223372036854775806 → Ev (fun k => laws_heldGame.l0 k (pre ++ mgRows a t) a (pre.length : Int)) (a + tot t) := by
  intro t
  induction t with
  | nil =>
    intro pre a ha hb hl
    refine Ev_round ?_
    simp only [laws_heldGame.l0]
    exact Ev_neg (by simp [mgRows]) (Ev_as (Ev.now _) (by simp [tot]))
  | cons x t ih =>
    intro pre a ha hb hl
    have h0 := tot_pos t
    unfold tot at hb
    rw [List.length_cons] at hl
    have hlt : pre.length < (pre ++ mgRows a (x :: t)).length := by simp [mgRows]
    refine Ev_round ?_
    simp only [laws_heldGame.l0]
    refine Ev_pos (by omega) (Ev_pos (by omega) ?_)
    rw [rdL2_nat hlt]
    have e : (pre ++ mgRows a (x :: t))[pre.length] = markG .i8 a x.length := by simp [mgRows]
    rw [e]
    refine Ev.bind (heldInt8S_ev a x.length ha (by omega)) (Ev_neg (by omega) ?_)
    rw [w64 (by omega) (by omega)]
    have h := ih (pre ++ [markG .i8 a x.length]) (a + (x.length : Int)) (by omega) (by omega) (by rw [List.length_append, List.length_singleton]; omega)
    rw [List.append_assoc, List.length_append, List.length_singleton] at h
    have e2 : a + tot (x :: t) = a + (x.length : Int) + tot t := by show a + ((x.length : Int) + tot t) = _; omega
    have e3 : ((pre.length : Int) + 1) = ((pre.length + 1 : Nat) : Int) := by omega
    rw [e2, e3]
    exact h
theorem heldGame_ev (g : List (List Int)) (a : Int) (ha : 0 ≤ a) (hb : a + tot g ≤ 9223372036854775806) (hl : (g.length : Int) ≤ 9223372036854775806) : Ev (fun k => laws_heldGame.f k (mgRows a g) a) (a + tot g) :=
  heldGame_go g [] a ha hb (by simpa using hl)

theorem markRows_ev : ∀ (g : List (List Int)) (a : Int), 0 ≤ a → a + tot g ≤ 9223372036854775806 → Ev (fun k => laws_markGame.f k g a) (a + tot g, mgRows a g) := by
  intro g
  unfold laws_markGame.f
  induction g with
  | nil => intro a _ _; exact Ev_as (Ev.now _) (by simp [tot, mgRows])
  | cons x t ih =>
    intro a ha hb
    have h0 := tot_pos t
    unfold tot at hb
    refine Ev.bind (markInt8S_ev x a ha (by omega)) (Ev.bind (ih (a + (x.length : Int)) (by omega) (by omega)) (Ev_as (Ev.now _) ?_))
    have e2 : a + tot (x :: t) = a + (x.length : Int) + tot t := by show a + ((x.length : Int) + tot t) = _; omega
    rw [e2]
    rfl

theorem tot_le (c : Nat) : ∀ g : List (List Int), (∀ x ∈ g, x.length ≤ c) → tot g ≤ (c : Int) * (g.length : Int) := by
  intro g
  induction g with
  | nil => intro _; simp [tot]
  | cons x t ih =>
    intro h
    have h1 := h x (by simp)
    have h2 := ih (fun y hy => h y (by simp [hy]))
    unfold tot
    rw [List.length_cons, Int.natCast_add, Int.mul_add]
    omega
theorem rdB_nat {xs : List ByteArray} {n : Nat} (h : n < xs.length) : rdOf ByteArray.empty xs (n : Int) = xs[n] := by simp [rdOf, List.getD_eq_getElem?_getD, List.getElem?_eq_getElem h]
def badG (g : List (List Int)) : Prop := ∃ row ∈ g, ∃ x ∈ row, 60 ≤ x
theorem badG_valid {g : List (List Int)} (h : badG g) : validG g = false := by
  cases hv : validG g with
  | false => rfl
  | true =>
    obtain ⟨row, hm, x, hx, h60⟩ := h
    obtain ⟨j, hj, rfl⟩ := List.getElem_of_mem hm
    have a := valid_at hv j hj x hx
    have b := valid_len hv
    omega
theorem badG_more {g : List (List Int)} {r : List Int} (y : Int) (h : badG (g ++ [r])) : badG (g ++ [r ++ [y]]) := by
  obtain ⟨row, hm, x, hx, h60⟩ := h
  rcases List.mem_append.1 hm with hm | hm
  · exact ⟨row, List.mem_append_left _ hm, x, hx, h60⟩
  · rw [List.mem_singleton] at hm
    subst hm
    exact ⟨_, List.mem_append_right _ (List.mem_singleton.2 rfl), x, List.mem_append_left _ hx, h60⟩
theorem badG_next {g : List (List Int)} (r : List Int) (h : badG g) : badG (g ++ [r]) := by
  obtain ⟨row, hm, x, hx, h60⟩ := h
  exact ⟨row, List.mem_append_left _ hm, x, hx, h60⟩
def okRow (r : List Int) : Prop := r.length ≤ 1048577 ∧ ∀ x ∈ r, 0 ≤ x ∧ x ≤ 60
def okG (g : List (List Int)) : Prop := ∀ row ∈ g, okRow row
theorem okG_next {g : List (List Int)} {r : List Int} (h : okG g) (hr : okRow r) : okG (g ++ [r]) := by
  intro row hm
  rcases List.mem_append.1 hm with hm | hm
  · exact h row hm
  · rw [List.mem_singleton] at hm
    subst hm
    exact hr
theorem okRow_next {r : List Int} {n : Nat} {j : Nat} (h : ∀ x ∈ r, 0 ≤ x ∧ x ≤ 60) (hn : n ≤ 60) : ∀ x ∈ r ++ [(n : Int)], 0 ≤ x ∧ x ≤ 60 := by
  intro x hx
  rcases List.mem_append.1 hx with hx | hx
  · exact h x hx
  · rw [List.mem_singleton] at hx
    subst hx
    omega
theorem valid_rows2 {g : List (List Int)} (h : okG g) : ∀ mv ∈ g, mv.length ≤ 2000000 ∧ ∀ x ∈ mv, -128 ≤ x ∧ x ≤ 127 := by
  intro mv hm
  obtain ⟨a, b⟩ := h mv hm
  exact ⟨by omega, fun x hx => by have := b x hx; omega⟩
/-- The parts of a word, by both programs. -/
theorem parts (ws : List ByteArray) (hw : ∀ x ∈ ws, x.size ≤ 1048576) (hn : ws.length ≤ 1048577) (i : Nat) (hi : i < ws.length) : ∃ ps : List ByteArray, (∀ x ∈ ps, x.size ≤ 1048576) ∧ ps.length ≤ 1048577 ∧ Ev (fun k => spec_l01Split.f k ws[i] 44) ps ∧ strings_Split.f ws[i] (⟨#[44]⟩ : ByteArray) = some ps := by
  have hsz := hw _ (List.getElem_mem hi)
  have hl : ws[i].data.toList.length = ws[i].size := Array.length_toList
  have hsp := split_spec ws[i] 44 hsz
  rw [show (((44 : UInt8).toNat : Nat) : Int) = 44 from rfl] at hsp
  obtain ⟨m1, m2⟩ := cutL_mem 44 ws[i].data.toList []
  refine ⟨_, ?_, ?_, hsp, ?_⟩
  · intro x hx
    obtain ⟨y, hy, rfl⟩ := List.mem_map.1 hx
    have := m1 y hy
    show y.toArray.size ≤ _
    rw [List.size_toArray]
    simp only [List.length_nil] at this
    omega
  · rw [List.length_map]; omega
  · rw [← splitS_cut]
    exact if_pos ⟨by omega, Nat.le_refl 1⟩
theorem taint_row (ws : List ByteArray) (hw : ∀ x ∈ ws, x.size ≤ 1048576) (hn : ws.length ≤ 1048577) (i : Nat) (x4 : List (List Int)) (hx4 : x4.length ≤ i) (hi : i < ws.length) (ps : List ByteArray) (hp : ∀ x ∈ ps, x.size ≤ 1048576) (hpl : ps.length ≤ 1048577)
    (hk : ∀ r : List Int, okRow r → badG (x4 ++ [r]) → Ev (fun k => impl_ReadGame.l0 k (x4 ++ [r]) ws (ws.length : Int) ((i + 1 : Nat) : Int)) ([], 5)) :
    ∀ (e j : Nat) (r : List Int), j + e = ps.length → r.length ≤ j → (∀ x ∈ r, 0 ≤ x ∧ x ≤ 60) → badG (x4 ++ [r]) → Ev (fun k => impl_ReadGame.l1 k x4 r ws (ws.length : Int) (i : Int) ps (ps.length : Int) (j : Int)) ([], 5) := by
  intro e
  induction e with
  | zero =>
    intro j r h hr hr2 hb
    refine Ev_round ?_
    simp only [impl_ReadGame.l1]
    rw [w64 (x := (i : Int) + 1) (by omega) (by omega)]
    exact Ev_neg (by omega) (Ev_pos (by omega) (hk r ⟨by omega, hr2⟩ hb))
  | succ e ih =>
    intro j r h hr hr2 hb
    have hj : j < ps.length := by omega
    obtain ⟨o, _, _, h2⟩ := number_both ps[j] (by have := hp _ (List.getElem_mem hj); omega) 60 (by omega)
    rw [show ((60 : Nat) : Int) = 60 from rfl] at h2
    refine Ev_round ?_
    simp only [impl_ReadGame.l1]
    rw [rdB_nat hj, h2, w64 (x := (j : Int) + 1) (by omega) (by omega)]
    simp only [Option.bind_some]
    refine Ev_pos (by omega) (Ev_pos (by omega) (Ev_pos (by omega) ?_))
    cases o with
    | none => exact Ev_pos (by simp) (Ev.now _)
    | some n =>
      simp only
      by_cases c : n ≤ 60
      · rw [if_pos c, wi8 (by omega) (by omega)]
        exact Ev_neg (by omega) (Ev_pos (by omega) (ih (j + 1) (r ++ [(n : Int)]) (by omega) (by simp; omega) (okRow_next (j := j) hr2 c) (badG_more _ hb)))
      · rw [if_neg c]
        exact Ev_pos (by omega) (Ev.now _)
theorem taint (ws : List ByteArray) (hw : ∀ x ∈ ws, x.size ≤ 1048576) (hn : ws.length ≤ 1048577) : ∀ (d i : Nat) (x4 : List (List Int)), i + d = ws.length → x4.length ≤ i → okG x4 → badG x4 → Ev (fun k => impl_ReadGame.l0 k x4 ws (ws.length : Int) (i : Int)) ([], 5) := by
  intro d
  induction d with
  | zero =>
    intro i x4 h hx ho hb
    refine Ev_round ?_
    simp only [impl_ReadGame.l0]
    have hv := impl_valid_ev x4 (by omega) (valid_rows2 ho)
    rw [badG_valid hb] at hv
    exact Ev_neg (by omega) (Ev.bind hv (Ev_neg (by simp) (Ev.now _)))
  | succ d ih =>
    intro i x4 h hx ho hb
    have hi : i < ws.length := by omega
    obtain ⟨ps, hp, hpl, _, hps⟩ := parts ws hw hn i hi
    refine Ev_round ?_
    simp only [impl_ReadGame.l0, Option.bind_some]
    rw [rdB_nat hi]
    refine Ev_pos (by omega) (Ev_pos (by omega) (Ev_pos (by omega) ?_))
    by_cases cd : ws[i].toList = ([45] : List UInt8)
    · rw [w64 (x := (i : Int) + 1) (by omega) (by omega)]
      exact Ev_pos cd (Ev_pos (by omega) (ih (i + 1) (x4 ++ [[]]) (by omega) (by simp; omega) (okG_next ho ⟨by simp, by simp⟩) (badG_next _ hb)))
    · rw [hps]
      simp only [Option.bind_some]
      refine Ev_neg cd (taint_row ws hw hn i x4 hx hi ps hp hpl ?_ ps.length 0 [] (by omega) (by simp) (by simp) (badG_next _ hb))
      intro r hr hb2
      exact ih (i + 1) (x4 ++ [r]) (by omega) (by simp; omega) (okG_next ho hr) hb2
def goodP (p : List (List Int) × Int) : Prop := p = ([], 5) ∨ (p.2 = 0 ∧ validG p.1 = true)
def numV : Option Nat → Int
  | some n => if n ≤ 60 then (n : Int) else -1
  | none => -1
theorem sync_row (ws : List ByteArray) (hw : ∀ x ∈ ws, x.size ≤ 1048576) (hn : ws.length ≤ 1048577) (i : Nat) (x4 : List (List Int)) (hx4 : x4.length ≤ i) (hi : i < ws.length) (ps : List ByteArray) (hp : ∀ x ∈ ps, x.size ≤ 1048576) (hpl : ps.length ≤ 1048577)
    (hk : ∀ r : List Int, okRow r → badG (x4 ++ [r]) → Ev (fun k => impl_ReadGame.l0 k (x4 ++ [r]) ws (ws.length : Int) ((i + 1 : Nat) : Int)) ([], 5))
    (hs : ∀ r : List Int, okRow r → ∃ p, goodP p ∧ Ev (fun k => spec_ReadGame.l0 k ws (x4 ++ [r]) ((i + 1 : Nat) : Int)) p ∧ Ev (fun k => impl_ReadGame.l0 k (x4 ++ [r]) ws (ws.length : Int) ((i + 1 : Nat) : Int)) p) :
    ∀ (e j : Nat) (r : List Int), j + e = ps.length → r.length ≤ j → (∀ x ∈ r, 0 ≤ x ∧ x ≤ 60) → ∃ p, goodP p ∧ Ev (fun k => spec_ReadGame.l1 k ws x4 (i : Int) r ps (j : Int)) p ∧ Ev (fun k => impl_ReadGame.l1 k x4 r ws (ws.length : Int) (i : Int) ps (ps.length : Int) (j : Int)) p := by
  intro e
  induction e with
  | zero =>
    intro j r h hr hr2
    obtain ⟨p, p1, p2, p3⟩ := hs r ⟨by omega, hr2⟩
    refine ⟨p, p1, Ev_round ?_, Ev_round ?_⟩
    · simp only [spec_ReadGame.l1]
      rw [w64 (x := (i : Int) + 1) (by omega) (by omega)]
      exact Ev_neg (by omega) (Ev_pos (by omega) p2)
    · simp only [impl_ReadGame.l1]
      rw [w64 (x := (i : Int) + 1) (by omega) (by omega)]
      exact Ev_neg (by omega) (Ev_pos (by omega) p3)
  | succ e ih =>
    intro j r h hr hr2
    have hj : j < ps.length := by omega
    obtain ⟨o, h1, _, h2⟩ := number_both ps[j] (by have := hp _ (List.getElem_mem hj); omega) 60 (by omega)
    rw [show ((60 : Nat) : Int) = 60 from rfl] at h2
    have h2 : impl_number.f ps[j] 60 = some (numV o) := by rw [h2]; cases o <;> rfl
    have I : ∀ p : List (List Int) × Int, Ev (fun k => (if (numV o) < 0 then (some (([] : List (List Int)), (5 : Int))) else (if r.length < 140737488355328 then (impl_ReadGame.l1 k x4 (r ++ [IntKind.i8.wrap (numV o)]) ws (ws.length : Int) (i : Int) ps (ps.length : Int) ((j + 1 : Nat) : Int)) else (none)))) p → Ev (fun k => impl_ReadGame.l1 k x4 r ws (ws.length : Int) (i : Int) ps (ps.length : Int) (j : Int)) p := by
      intro p hp2
      refine Ev_round ?_
      simp only [impl_ReadGame.l1]
      rw [rdB_nat hj, h2, w64 (x := (j : Int) + 1) (by omega) (by omega)]
      simp only [Option.bind_some]
      rw [show (j : Int) + 1 = ((j + 1 : Nat) : Int) by omega]
      exact Ev_pos (by omega) (Ev_pos (by omega) (Ev_pos (by omega) hp2))
    have bad : goodP ([], 5) := .inl rfl
    cases o with
    | none =>
      refine ⟨([], 5), bad, Ev_round ?_, I _ (Ev_pos (by simp [numV]) (Ev.now _))⟩
      simp only [spec_ReadGame.l1]
      rw [rdB_nat hj]
      exact Ev_pos (by omega) (Ev_pos (by omega) (Ev.bind h1 (Ev_neg (by simp) (Ev.now _))))
    | some n =>
      simp only at h1
      by_cases c : n < 60
      · obtain ⟨p, p1, p2, p3⟩ := ih (j + 1) (r ++ [(n : Int)]) (by omega) (by simp; omega) (okRow_next (j := j) hr2 (by omega))
        refine ⟨p, p1, Ev_round ?_, I p ?_⟩
        · simp only [spec_ReadGame.l1]
          rw [rdB_nat hj, w64 (x := (j : Int) + 1) (by omega) (by omega)]
          refine Ev_pos (by omega) (Ev_pos (by omega) (Ev.bind h1 (Ev_pos (by trivial) (Ev_neg (by simp only; omega) (Ev_pos (by omega) ?_)))))
          simp only
          rw [wi8 (by omega) (by omega)]
          exact p2
        · have hv : numV (some n) = (n : Int) := if_pos (by omega)
          simp only [hv]
          rw [wi8 (by omega) (by omega)]
          exact Ev_neg (by omega) (Ev_pos (by omega) p3)
      · refine ⟨([], 5), bad, Ev_round ?_, I _ ?_⟩
        · simp only [spec_ReadGame.l1]
          rw [rdB_nat hj]
          exact Ev_pos (by omega) (Ev_pos (by omega) (Ev.bind h1 (Ev_pos (by trivial) (Ev_pos (by simp only; omega) (Ev.now _)))))
        · by_cases c2 : n ≤ 60
          · have hv : numV (some n) = (n : Int) := if_pos c2
            simp only [hv]
            rw [wi8 (by omega) (by omega)]
            refine Ev_neg (by omega) (Ev_pos (by omega) (taint_row ws hw hn i x4 hx4 hi ps hp hpl hk e (j + 1) (r ++ [(n : Int)]) (by omega) (by simp; omega) (okRow_next (j := j) hr2 c2) ?_))
            exact ⟨_, List.mem_append_right _ (List.mem_singleton.2 rfl), (n : Int), by simp, by omega⟩
          · have hv : numV (some n) = -1 := if_neg c2
            simp only [hv]
            exact Ev_pos (by omega) (Ev.now _)
theorem sync (ws : List ByteArray) (hw : ∀ x ∈ ws, x.size ≤ 1048576) (hn : ws.length ≤ 1048577) : ∀ (d i : Nat) (x4 : List (List Int)), i + d = ws.length → x4.length ≤ i → okG x4 → ∃ p, goodP p ∧ Ev (fun k => spec_ReadGame.l0 k ws x4 (i : Int)) p ∧ Ev (fun k => impl_ReadGame.l0 k x4 ws (ws.length : Int) (i : Int)) p := by
  intro d
  induction d with
  | zero =>
    intro i x4 h hx ho
    have hv := impl_valid_ev x4 (by omega) (valid_rows2 ho)
    have hv2 := spec_ok_ev x4 (by omega) (valid_rows2 ho)
    cases hV : validG x4 with
    | false =>
      rw [hV] at hv hv2
      refine ⟨([], 5), .inl rfl, Ev_round ?_, Ev_round ?_⟩
      · simp only [spec_ReadGame.l0]
        exact Ev_neg (by omega) (Ev.bind hv2 (Ev_neg (by simp) (Ev.now _)))
      · simp only [impl_ReadGame.l0]
        exact Ev_neg (by omega) (Ev.bind hv (Ev_neg (by simp) (Ev.now _)))
    | true =>
      rw [hV] at hv hv2
      refine ⟨(x4, 0), .inr ⟨rfl, hV⟩, Ev_round ?_, Ev_round ?_⟩
      · simp only [spec_ReadGame.l0]
        exact Ev_neg (by omega) (Ev.bind hv2 (Ev_pos (by trivial) (Ev.now _)))
      · simp only [impl_ReadGame.l0]
        exact Ev_neg (by omega) (Ev.bind hv (Ev_pos (by trivial) (Ev.now _)))
  | succ d ih =>
    intro i x4 h hx ho
    have hi : i < ws.length := by omega
    obtain ⟨ps, hp, hpl, hsp, hps⟩ := parts ws hw hn i hi
    by_cases cd : ws[i].toList = ([45] : List UInt8)
    · obtain ⟨p, p1, p2, p3⟩ := ih (i + 1) (x4 ++ [[]]) (by omega) (by simp; omega) (okG_next ho ⟨by simp, by simp⟩)
      refine ⟨p, p1, Ev_round ?_, Ev_round ?_⟩
      · simp only [spec_ReadGame.l0, Option.bind_some]
        rw [rdB_nat hi, w64 (x := (i : Int) + 1) (by omega) (by omega)]
        exact Ev_pos (by omega) (Ev_pos (by omega) (Ev_pos cd (Ev_pos (by omega) p2)))
      · simp only [impl_ReadGame.l0, Option.bind_some]
        rw [rdB_nat hi, w64 (x := (i : Int) + 1) (by omega) (by omega)]
        exact Ev_pos (by omega) (Ev_pos (by omega) (Ev_pos (by omega) (Ev_pos cd (Ev_pos (by omega) p3))))
    · obtain ⟨p, p1, p2, p3⟩ := sync_row ws hw hn i x4 hx hi ps hp hpl (fun r hr hb => taint ws hw hn d (i + 1) (x4 ++ [r]) (by omega) (by simp; omega) (okG_next ho hr) hb) (fun r hr => ih (i + 1) (x4 ++ [r]) (by omega) (by simp; omega) (okG_next ho hr)) ps.length 0 [] (by omega) (by simp) (by simp)
      refine ⟨p, p1, Ev_round ?_, Ev_round ?_⟩
      · simp only [spec_ReadGame.l0, Option.bind_some]
        rw [rdB_nat hi]
        exact Ev_pos (by omega) (Ev_pos (by omega) (Ev_neg cd (Ev.bind hsp p2)))
      · simp only [impl_ReadGame.l0, Option.bind_some]
        rw [rdB_nat hi, hps]
        simp only [Option.bind_some]
        exact Ev_pos (by omega) (Ev_pos (by omega) (Ev_pos (by omega) (Ev_neg cd p3)))
theorem FnExactReadGame (s : ByteArray) (hs : s.size ≤ maxLen) : ∃ k, laws_FnExactReadGame.f k s = some true := by
  by_cases hb : 1048576 < (s.size : Int)
  · exact ⟨0, if_pos hb⟩
  · refine Ev.rounds (r := true) (Ev_neg hb ?_)
    have hl : s.data.toList.length = s.size := Array.length_toList
    have hsp := split_spec s 32 (by omega)
    rw [show (((32 : UInt8).toNat : Nat) : Int) = 32 from rfl] at hsp
    obtain ⟨m1, m2⟩ := cutL_mem 32 s.data.toList []
    have hwl : ((cutL 32 [] s.data.toList).map mkB).length ≤ 1048577 := by rw [List.length_map]; omega
    obtain ⟨p, hp, h1, h2⟩ := sync ((cutL 32 [] s.data.toList).map mkB) (by
      intro x hx
      obtain ⟨y, hy, rfl⟩ := List.mem_map.1 hx
      have := m1 y hy
      show y.toArray.size ≤ _
      rw [List.size_toArray]
      simp only [List.length_nil] at this
      omega) hwl _ 0 [] (Nat.zero_add _) (by simp) (by intro row hm; simp at hm)
    have hcut : strings_Split.f s (⟨#[32]⟩ : ByteArray) = some ((cutL 32 [] s.data.toList).map mkB) := by
      rw [← splitS_cut]
      exact if_pos ⟨by omega, Nat.le_refl 1⟩
    have hS : Ev (fun k => spec_ReadGame.f k s) p := Ev.bind hsp h1
    have hI : Ev (fun k => impl_ReadGame.f k s) p := by
      unfold impl_ReadGame.f
      rw [hcut]
      simp only [Option.bind_some]
      exact h2
    have hsm : p.1.length ≤ 60 ∧ ∀ x ∈ p.1, x.length ≤ 60 := by
      rcases hp with rfl | ⟨_, hv⟩
      · simp
      · refine ⟨(valid_len hv).2, fun x hx => ?_⟩
        obtain ⟨j, hj, rfl⟩ := List.getElem_of_mem hx
        have := valid_row_len hv j hj
        have := valid_len hv
        omega
    obtain ⟨V, er⟩ := p
    simp only at hsm
    have tv := tot_le 60 V hsm.2
    have pv := tot_pos V
    have tv2 : ((60 : Nat) : Int) * (V.length : Int) ≤ 60 * 60 := by omega
    refine Ev.bind hS (Ev.bind hI (Ev.bind (eqGame_ev V V (by omega) (fun x hx => by have := hsm.2 x hx; omega)) (Ev.bind (markRows_ev V 1 (by omega) (by omega)) (Ev.bind (heldGame_ev V 1 (by omega) (by omega) (by omega)) ?_))))
    exact Ev_pos ⟨rfl, by simp, by simp only; omega, rfl, rfl⟩ (Ev.now _)

end Go.Proofs.YtojjakjpdkpmiaaDoor.Pure
