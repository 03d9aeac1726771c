/- ReadMatrix: the rows' texts and how both programs read each of them. No condition but the text's length. -/
import Derived.Test.YtdgglnjegkmamaaDoorQFnExactReadMatrixx2
import Derived.Test.YtdgglnjegkmamaaDoorLib
set_option linter.unusedVariables false
set_option linter.unusedSimpArgs false
namespace Go.Proofs.YtdgglnjegkmamaaDoor.Pure
open Go.RowKit Go.Proofs.YtdgglnjegkmamaaDoor.QFnExactReadMatrix Go.Proofs.YtdgglnjegkmamaaDoorW.PrintWords Go.Proofs.YtdgglnjegkmamaaDoorW.PrintLast Go.Proofs.YtdgglnjegkmamaaDoor.Lib

/-- The parts of a list between the bytes c; cur is what the part that is under way holds. -/
def cutL (c : UInt8) : List UInt8 → List UInt8 → List (List UInt8)
  | cur, [] => [cur]
  | cur, x :: t => if x = c then cur :: cutL c [] t else cutL c (cur ++ [x]) t
def mkB (l : List UInt8) : ByteArray := ⟨l.toArray⟩
theorem cutL_mem (c : UInt8) : ∀ (l cur : List UInt8), (∀ x ∈ cutL c cur l, x.length ≤ cur.length + l.length) ∧ (cutL c cur l).length ≤ l.length + 1 := by
  intro l
  induction l with
  | nil =>
    intro cur
    refine ⟨fun x hx => ?_, by simp [cutL]⟩
    simp only [cutL, List.mem_singleton] at hx
    subst hx
    simp
  | cons a t ih =>
    intro cur
    simp only [cutL]
    by_cases h : a = c
    · rw [if_pos h]
      obtain ⟨i1, i2⟩ := ih []
      refine ⟨fun x hx => ?_, by simp only [List.length_cons]; omega⟩
      rcases List.mem_cons.1 hx with hx | hx
      · subst hx; simp only [List.length_cons]; omega
      · have := i1 x hx
        simp only [List.length_cons, List.length_nil] at this ⊢
        omega
    · rw [if_neg h]
      obtain ⟨i1, i2⟩ := ih (cur ++ [a])
      refine ⟨fun x hx => ?_, by simp only [List.length_cons]; omega⟩
      have := i1 x hx
      simp only [List.length_cons, List.length_append, List.length_nil] at this ⊢
      omega
theorem extract_mk (s : ByteArray) (b e : Nat) : s.extract b e = mkB ((s.data.toList.drop b).take (e - b)) := by
  apply ByteArray.ext
  apply Array.toList_inj.1
  rw [ByteArray.data_extract, Array.toList_extract]
  rfl
theorem bt_list' (s : ByteArray) (i : Nat) (h : i < s.size) : bt s (i : Int) = ((s.data.toList[i]'(by simpa using h)).toNat : Int) := by
  unfold bt
  rw [Int.toNat_natCast, dif_pos h]
  rfl
theorem split_loop (s : ByteArray) (c : UInt8) (hs : s.size ≤ 1048576) : ∀ (d i b : Nat) (out : List ByteArray), i + d = s.size → b ≤ i → out.length ≤ i → Ev (fun k => spec_l01Split.l0 k s (c.toNat : Int) out (b : Int) (i : Int)) (out ++ (cutL c ((s.data.toList.drop b).take (i - b)) (s.data.toList.drop i)).map mkB) := by
  intro d
  have hl : s.data.toList.length = s.size := Array.length_toList
  induction d with
  | zero =>
    intro i b out h hb ho
    refine Ev_round ?_
    simp only [spec_l01Split.l0]
    rw [List.drop_of_length_le (show s.data.toList.length ≤ i by omega), Int.toNat_natCast]
    refine Ev_neg (by omega) (Ev_pos (by omega) (Ev_pos (by omega) (Ev_pos (by omega) (Ev_as (Ev.now _) ?_))))
    rw [show s.size = i by omega, extract_mk]
    rfl
  | succ d ih =>
    intro i b out h hb ho
    refine Ev_round ?_
    simp only [spec_l01Split.l0]
    have hi : i < s.size := by omega
    rw [bt_list' s i hi, List.drop_eq_getElem_cons (show i < s.data.toList.length by omega), w64 (by omega) (by omega), Int.toNat_natCast, Int.toNat_natCast, extract_mk]
    refine Ev_pos (by omega) (Ev_pos (by omega) ?_)
    simp only [cutL]
    by_cases hc : s.data.toList[i]'(by omega) = c
    · rw [if_pos hc]
      refine Ev_pos (by rw [hc]) (Ev_pos (by omega) (Ev_pos (by omega) (Ev_pos (by omega) (Ev_pos (by omega) ?_))))
      have := ih (i + 1) (i + 1) (out ++ [mkB ((s.data.toList.drop b).take (i - b))]) (by omega) (by omega) (by simp; omega)
      rw [Nat.sub_self, List.take_zero] at this
      refine Ev_as this ?_
      simp
    · rw [if_neg hc]
      have hne : ¬ ((s.data.toList[i]'(by omega)).toNat : Int) = (c.toNat : Int) := fun e => hc (UInt8.toNat_inj.1 (by omega))
      refine Ev_neg hne ?_
      have := ih (i + 1) b out (by omega) (by omega) (by omega)
      rw [show i + 1 - b = (i - b) + 1 by omega, List.take_succ_eq_append_getElem (by rw [List.length_drop]; omega), List.getElem_drop] at this
      simp only [show b + (i - b) = i by omega] at this
      exact this
theorem split_spec (s : ByteArray) (c : UInt8) (hs : s.size ≤ 1048576) : Ev (fun k => spec_l01Split.f k s (c.toNat : Int)) ((cutL c [] s.data.toList).map mkB) := by
  have := split_loop s c hs s.size 0 0 [] (by omega) (by omega) (by simp)
  simp only [List.drop_zero, Nat.sub_self, List.take_zero, List.nil_append] at this
  exact this

def dig (c : UInt8) : Bool := decide (48 ≤ c.toNat) && decide (c.toNat ≤ 57)
def valF (l : List UInt8) (a : Nat) : Nat := l.foldl (fun a c => a * 10 + (c.toNat - 48)) a
theorem valF_cons (c : UInt8) (l : List UInt8) (a : Nat) : valF (c :: l) a = valF l (a * 10 + (c.toNat - 48)) := by
  unfold valF
  rw [List.foldl_cons]
theorem valF_snoc (l : List UInt8) (c : UInt8) (a : Nat) : valF (l ++ [c]) a = valF l a * 10 + (c.toNat - 48) := by simp [valF, List.foldl_append]
theorem digit_nat (k : Nat) (h : k < 10) : (UInt8.ofNat (48 + k)).toNat = 48 + k := by
  have : 48 + k < 256 := by omega
  exact UInt8.toNat_ofNat_of_lt' this
theorem head_app {l r : List UInt8} (h : l ≠ []) : (l ++ r).head? = l.head? := by
  obtain ⟨x, t, rfl⟩ := List.exists_cons_of_ne_nil h
  rfl
theorem dec_step {n : Nat} (h : ¬ n < 10) : Go.Lib.decDigits n = Go.Lib.decDigits (n / 10) ++ [UInt8.ofNat (48 + n % 10)] := by
  rw [Go.Lib.decDigits, dif_neg h]
theorem dec_ne (n : Nat) : Go.Lib.decDigits n ≠ [] := by
  by_cases h : n < 10
  · rw [Go.Lib.decDigits_one h]; simp
  · rw [dec_step h]; simp
theorem dec_dig (n : Nat) : ∀ c ∈ Go.Lib.decDigits n, dig c = true := by
  induction n using Nat.strongRecOn with
  | ind n ih =>
    intro c hc
    by_cases h : n < 10
    · rw [Go.Lib.decDigits_one h, List.mem_singleton] at hc
      subst hc
      unfold dig
      rw [digit_nat n h]
      simp
      omega
    · rw [dec_step h] at hc
      rcases List.mem_append.1 hc with hc | hc
      · exact ih (n / 10) (by omega) c hc
      · rw [List.mem_singleton] at hc
        subst hc
        unfold dig
        rw [digit_nat _ (by omega)]
        simp
        omega
theorem dec_val (n : Nat) : valF (Go.Lib.decDigits n) 0 = n := by
  induction n using Nat.strongRecOn with
  | ind n ih =>
    by_cases h : n < 10
    · rw [Go.Lib.decDigits_one h, valF_cons, digit_nat n h]
      show 0 * 10 + (48 + n - 48) = n
      omega
    · rw [dec_step h, valF_snoc, ih (n / 10) (by omega), digit_nat _ (by omega)]
      omega
theorem dec_inj {a b : Nat} (h : Go.Lib.decDigits a = Go.Lib.decDigits b) : a = b := by
  have := congrArg (fun l => valF l 0) h
  simpa [dec_val] using this
theorem dec_head (n : Nat) : 10 ≤ n → (Go.Lib.decDigits n).head? ≠ some 48 := by
  induction n using Nat.strongRecOn with
  | ind n ih =>
    intro h
    rw [dec_step (by omega)]
    have hne := dec_ne (n / 10)
    rw [head_app hne]
    by_cases h2 : n / 10 < 10
    · rw [Go.Lib.decDigits_one h2]
      intro e
      have e2 := Option.some.inj e
      have := congrArg UInt8.toNat e2
      rw [digit_nat _ h2] at this
      have h48 : (48 : UInt8).toNat = 48 := rfl
      omega
    · exact ih (n / 10) (by omega) (by omega)
theorem dec_len : ∀ (k n : Nat), n < 10 ^ (k + 1) → (Go.Lib.decDigits n).length ≤ k + 1 := by
  intro k
  induction k with
  | zero =>
    intro n h
    rw [Go.Lib.decDigits_one (by omega)]
    simp
  | succ k ih =>
    intro n h
    by_cases h2 : n < 10
    · rw [Go.Lib.decDigits_one h2]; simp
    · rw [dec_step h2, List.length_append]
      have := ih (n / 10) (by rw [Nat.pow_succ] at h; omega)
      simp only [List.length_singleton]
      omega
theorem val_lt : ∀ (l : List UInt8) (a b : Nat), (∀ c ∈ l, dig c = true) → a < 10 ^ b → valF l a < 10 ^ (b + l.length) := by
  intro l
  induction l with
  | nil => intro a b _ h; exact h
  | cons c t ih =>
    intro a b hd h
    have hc := hd c (List.mem_cons_self ..)
    unfold dig at hc
    simp only [Bool.and_eq_true, decide_eq_true_eq] at hc
    rw [valF_cons, List.length_cons, show b + (t.length + 1) = (b + 1) + t.length by omega]
    refine ih _ (b + 1) (fun x hx => hd x (List.mem_cons_of_mem _ hx)) ?_
    rw [Nat.pow_succ]
    omega
theorem canon : ∀ (n : Nat) (l : List UInt8), l.length = n + 1 → (∀ c ∈ l, dig c = true) → (n = 0 ∨ l.head? ≠ some 48) → Go.Lib.decDigits (valF l 0) = l := by
  intro n
  induction n with
  | zero =>
    intro l hl hd _
    match l, hl with
    | [c], _ =>
      have hc := hd c (List.mem_cons_self ..)
      unfold dig at hc
      simp only [Bool.and_eq_true, decide_eq_true_eq] at hc
      have e : valF [c] 0 = c.toNat - 48 := by
        show 0 * 10 + (c.toNat - 48) = _
        omega
      rw [e, Go.Lib.decDigits_one (by omega), show 48 + (c.toNat - 48) = c.toNat by omega, UInt8.ofNat_toNat]
  | succ n ih =>
    intro l hl hd hh
    have hne : l ≠ [] := by intro e; rw [e] at hl; simp at hl
    have e := List.dropLast_concat_getLast hne
    generalize hd1 : l.dropLast = l' at *
    generalize l.getLast hne = c at *
    have hl' : l'.length = n + 1 := by
      have := congrArg List.length e
      rw [List.length_append, List.length_singleton] at this
      omega
    have hne' : l' ≠ [] := by intro e2; rw [e2] at hl'; simp at hl'
    have hhead : l'.head? ≠ some 48 := by
      rcases hh with hh | hh
      · omega
      · rw [← e, head_app hne'] at hh
        exact hh
    have hdl : ∀ x ∈ l', dig x = true := fun x hx => hd x (by rw [← e]; exact List.mem_append_left _ hx)
    have hc := hd c (by rw [← e]; simp)
    unfold dig at hc
    simp only [Bool.and_eq_true, decide_eq_true_eq] at hc
    have i := ih l' hl' hdl (.inr hhead)
    have hv : valF l' 0 ≠ 0 := by
      intro hz
      rw [hz, Go.Lib.decDigits_one (by omega)] at i
      rw [← i] at hhead
      exact hhead rfl
    rw [← e, valF_snoc, dec_step (by omega), show (valF l' 0 * 10 + (c.toNat - 48)) / 10 = valF l' 0 by omega, i, show (valF l' 0 * 10 + (c.toNat - 48)) % 10 = c.toNat - 48 by omega, show 48 + (c.toNat - 48) = c.toNat by omega, UInt8.ofNat_toNat]
theorem bt_list (s : ByteArray) (i : Nat) (h : i < s.size) : bt s (i : Int) = ((s.data.toList[i]'(by simpa using h)).toNat : Int) := by
  unfold bt
  rw [Int.toNat_natCast, dif_pos h]
  rfl
theorem num_loop (s : ByteArray) (hs : s.size ≤ 10) : ∀ (d i acc : Nat), i + d = s.size → acc < 10 ^ i → Ev (fun k => spec_l01Number.l0 k s (acc : Int) (i : Int)) (if (s.data.toList.drop i).all dig = true then ((valF (s.data.toList.drop i) acc : Nat), true) else ((0 : Int), false)) := by
  intro d
  induction d with
  | zero =>
    intro i acc h ha
    refine Ev_round ?_
    simp only [spec_l01Number.l0]
    have hl : s.data.toList.length = s.size := Array.length_toList
    rw [List.drop_of_length_le (by omega)]
    exact Ev_neg (by omega) (Ev.now _)
  | succ d ih =>
    intro i acc h ha
    refine Ev_round ?_
    simp only [spec_l01Number.l0]
    have hl : s.data.toList.length = s.size := Array.length_toList
    have hi : i < s.size := by omega
    refine Ev_pos (by omega) (Ev_pos (by omega) ?_)
    rw [bt_list s i hi, List.drop_eq_getElem_cons (by omega)]
    generalize s.data.toList[i]'(by omega) = c at *
    rw [List.all_cons, valF_cons]
    have hb : c.toNat < 256 := c.toNat_lt
    have hp : 10 ^ i ≤ 10 ^ 9 := Nat.pow_le_pow_right (by omega) (by omega)
    by_cases h1 : c.toNat < 48
    · have : dig c = false := by unfold dig; simp; omega
      rw [this]
      exact Ev_pos (by omega) (Ev.now _)
    · refine Ev_neg (by omega) ?_
      by_cases h2 : 57 < c.toNat
      · have : dig c = false := by unfold dig; simp; omega
        rw [this]
        exact Ev_pos (by omega) (Ev.now _)
      · have : dig c = true := by unfold dig; simp; omega
        rw [this, Bool.true_and]
        refine Ev_neg (by omega) ?_
        rw [w64 (x := 10 * (acc : Int)) (by omega) (by omega), w64 (x := (i : Int) + 1) (by omega) (by omega), w64 (by omega) (by omega)]
        rw [show (10 * (acc : Int) + ((c.toNat : Int) - 48) % 256) = ((acc * 10 + (c.toNat - 48) : Nat) : Int) by omega]
        exact ih (i + 1) (acc * 10 + (c.toNat - 48)) (by omega) (by rw [Nat.pow_succ]; omega)
/-- The reference reads just the decimal numerals of at most ten digits. -/
theorem num_spec (s : ByteArray) (hs : s.size ≤ 9223372036854775807) : ∃ o : Option Nat, (∀ n, o = some n ↔ (s.data.toList = Go.Lib.decDigits n ∧ n < 10 ^ 10)) ∧ Ev (fun k => spec_l01Number.f k s) (match o with | some n => ((n : Int), true) | none => (0, false)) := by
  have hl : s.data.toList.length = s.size := Array.length_toList
  have hdt := Go.Lib.toList_data s
  have J : Ev (fun k => spec_l01Number.j0 k s true) (0, false) := by
    refine Ev_round ?_
    simp only [spec_l01Number.j0]
    exact Ev_pos (by trivial) (Ev.now _)
  have no : (∀ n, n < 10 ^ 10 → s.data.toList ≠ Go.Lib.decDigits n) → ∀ n, (none : Option Nat) = some n ↔ (s.data.toList = Go.Lib.decDigits n ∧ n < 10 ^ 10) :=
    fun h n => ⟨fun e => by simp at e, fun e => absurd e.1 (h n e.2)⟩
  unfold spec_l01Number.f
  by_cases c0 : s.toList = []
  · refine ⟨none, no (fun n _ e => ?_), Ev_pos c0 J⟩
    rw [hdt] at c0
    rw [c0] at e
    exact dec_ne n e.symm
  · have hne : s.data.toList ≠ [] := by rw [← hdt]; exact c0
    have hpos : 0 < s.size := by rw [← hl]; exact List.length_pos_iff.2 hne
    by_cases c1 : s.size ≤ 10
    · have hb0 := bt_list s 0 hpos
      rw [show ((0 : Nat) : Int) = 0 from rfl] at hb0
      have hhead : s.data.toList.head? = some (s.data.toList[0]'(by omega)) := by rw [List.head?_eq_getElem?, List.getElem?_eq_getElem]
      by_cases c2 : (s.data.toList[0]'(by omega)).toNat = 48 ∧ 1 < s.size
      · refine ⟨none, no (fun n hn e => ?_), Ev_neg c0 (Ev_neg (by omega) (Ev_pos (by omega) (Ev_pos (by rw [hb0]; omega) ?_)))⟩
        · have hn10 : 10 ≤ n := by
            rcases Nat.lt_or_ge n 10 with q | q
            · rw [Go.Lib.decDigits_one q] at e
              rw [e] at hl
              simp at hl
              omega
            · exact q
          have := dec_head n hn10
          rw [← e, hhead] at this
          apply this
          congr 1
          apply UInt8.toNat_inj.1
          rw [c2.1]
          rfl
        · have : decide ((s.size : Int) > 1) = true := by simp; omega
          rw [this]
          exact J
      · have hgo : Ev (fun k => spec_l01Number.j0 k s false) (if (s.data.toList.drop 0).all dig = true then ((valF (s.data.toList.drop 0) 0 : Nat), true) else ((0 : Int), false)) := by
          refine Ev_round ?_
          simp only [spec_l01Number.j0]
          exact Ev_neg (by simp) (num_loop s c1 s.size 0 0 (by omega) (by omega))
        have hgo2 : Ev (fun k => if s.toList = ([] : List UInt8) then (spec_l01Number.j0 k s true) else (if (s.size : Int) > 10 then (spec_l01Number.j0 k s true) else (if 0 < (s.size : Int) then (if (bt s 0) = 48 then (spec_l01Number.j0 k s (decide ((s.size : Int) > 1))) else (spec_l01Number.j0 k s false)) else (none)))) (if (s.data.toList.drop 0).all dig = true then ((valF (s.data.toList.drop 0) 0 : Nat), true) else ((0 : Int), false)) := by
          refine Ev_neg c0 (Ev_neg (by omega) (Ev_pos (by omega) ?_))
          by_cases c3 : bt s 0 = 48
          · refine Ev_pos c3 ?_
            have : decide ((s.size : Int) > 1) = false := by
              apply decide_eq_false
              intro hh
              exact c2 ⟨by rw [hb0] at c3; omega, by omega⟩
            rw [this]
            exact hgo
          · exact Ev_neg c3 hgo
        rw [List.drop_zero] at hgo2
        by_cases ca : s.data.toList.all dig = true
        · rw [if_pos ca] at hgo2
          have hd : ∀ c ∈ s.data.toList, dig c = true := fun c hc => List.all_eq_true.1 ca c hc
          have hcan : Go.Lib.decDigits (valF s.data.toList 0) = s.data.toList := by
            refine canon (s.size - 1) _ (by omega) hd ?_
            rcases Nat.lt_or_ge 1 s.size with q | q
            · right
              rw [hhead]
              intro e
              refine c2 ⟨?_, q⟩
              rw [Option.some.inj e]
              rfl
            · left; omega
          have hlt : valF s.data.toList 0 < 10 ^ 10 := by
            have := val_lt s.data.toList 0 0 hd (by omega)
            refine Nat.lt_of_lt_of_le this (Nat.pow_le_pow_right (by omega) (by omega))
          refine ⟨some (valF s.data.toList 0), fun n => ⟨fun e => ?_, fun e => ?_⟩, hgo2⟩
          · rw [← Option.some.inj e]
            exact ⟨hcan.symm, hlt⟩
          · rw [← hcan] at e
            exact congrArg some (dec_inj e.1)
        · rw [if_neg ca] at hgo2
          refine ⟨none, no (fun n _ e => ?_), hgo2⟩
          apply ca
          rw [e]
          exact List.all_eq_true.2 (dec_dig n)
    · refine ⟨none, no (fun n hn e => ?_), Ev_neg c0 (Ev_pos (by omega) J)⟩
      have := dec_len 9 n hn
      rw [← e] at this
      omega

theorem index_cut (c : UInt8) : ∀ (cur t : List UInt8), c ∉ cur → Go.Lib.index (cur ++ c :: t) [c] = (cur.length : Int) := by
  intro cur
  induction cur with
  | nil =>
    intro t _
    simp [Go.Lib.index, List.isPrefixOf]
  | cons a r ih =>
    intro t h
    have hne : (c == a) = false := by simp; intro e; exact h (by rw [e]; simp)
    have i := ih t (fun e => h (List.mem_cons_of_mem _ e))
    simp only [List.cons_append, Go.Lib.index]
    rw [i]
    simp [List.isPrefixOf, hne] <;> omega
theorem index_none (c : UInt8) : ∀ (l : List UInt8), c ∉ l → Go.Lib.index l [c] = -1 := by
  intro l
  induction l with
  | nil => intro _; simp [Go.Lib.index]
  | cons a r ih =>
    intro h
    have hne : (c == a) = false := by simp; intro e; exact h (by rw [e]; simp)
    have i := ih (fun e => h (List.mem_cons_of_mem _ e))
    simp only [Go.Lib.index]
    rw [i]
    simp [List.isPrefixOf, hne]
theorem split_cut (c : UInt8) : ∀ (l cur : List UInt8), c ∉ cur → Go.Lib.splitK [c] 0 (Go.Lib.count (cur ++ l) [c]) (cur ++ l) = cutL c cur l := by
  intro l
  induction l with
  | nil =>
    intro cur h
    rw [List.append_nil, Go.Lib.count_miss (index_none c cur h)]
    rfl
  | cons x t ih =>
    intro cur h
    simp only [cutL]
    by_cases hx : x = c
    · subst hx
      rw [if_pos rfl]
      have hi := index_cut x cur t h
      rw [Go.Lib.count_hit (by simp) hi, Nat.add_comm 1]
      simp only [Go.Lib.splitK]
      rw [hi, Int.toNat_natCast]
      have hne : (((cur.length : Nat) : Int) == -1) = false := by first | (simp; done) | (simp; omega)
      rw [if_neg (by rw [hne]; simp)]
      have hd : (cur ++ x :: t).drop (cur.length + [x].length) = t := by simp
      have ht : (cur ++ x :: t).take (cur.length + 0) = cur := by simp
      rw [hd, ht]
      have := ih [] (by simp)
      rw [List.nil_append] at this
      rw [this]
    · rw [if_neg hx]
      have := ih (cur ++ [x]) (by simp; exact ⟨h, fun e => hx e.symm⟩)
      rw [List.append_assoc] at this
      exact this
theorem splitS_cut (s : ByteArray) (c : UInt8) : splitS s (⟨#[c]⟩ : ByteArray) = (cutL c [] s.data.toList).map mkB := by
  have h1 := Go.Lib.splitB_data (⟨#[c]⟩ : ByteArray) 0 (Go.Lib.countB s (⟨#[c]⟩ : ByteArray)) s
  have h2 := split_cut c s.data.toList [] (by simp)
  rw [List.nil_append] at h2
  have h3 : (splitS s (⟨#[c]⟩ : ByteArray)).map (·.data.toList) = cutL c [] s.data.toList := h1.trans h2
  rw [← h3, List.map_map]
  conv => lhs; rw [← List.map_id (splitS s (⟨#[c]⟩ : ByteArray))]
  apply List.map_congr_left
  intro x _
  exact ByteArray.ext (by simp [mkB])

/-! The decimal text is not asked for by itself. -/

theorem parse_dig : ∀ (l : List UInt8) (a : Nat), (∀ c ∈ l, dig c = true) → valF l a < 1844674407370955162 → Go.Lib.parseUintM 18446744073709551615 a l = .ok (valF l a) ∧ a ≤ valF l a := by
  intro l
  induction l with
  | nil => intro a _ _; exact ⟨rfl, Nat.le_refl _⟩
  | cons c t ih =>
    intro a hd hv
    have hc := hd c (List.mem_cons_self ..)
    unfold dig at hc
    simp only [Bool.and_eq_true, decide_eq_true_eq] at hc
    rw [valF_cons] at hv ⊢
    obtain ⟨i1, i2⟩ := ih _ (fun x hx => hd x (List.mem_cons_of_mem _ hx)) hv
    refine ⟨?_, by omega⟩
    simp only [Go.Lib.parseUintM]
    rw [if_pos hc, if_neg (by omega), if_neg (by omega)]
    exact i1
theorem parse_dec (n : Nat) (h : n < 10000000000) : Go.Lib.parseIntB 64 (Go.Lib.decDigits n) = .ok (n : Int) := by
  have hd := dec_dig n
  have hv := dec_val n
  have hp := (parse_dig (Go.Lib.decDigits n) 0 hd (by rw [hv]; omega)).1
  rw [hv] at hp
  have hne := dec_ne n
  generalize Go.Lib.decDigits n = l at *
  match l, hne with
  | c :: r, _ =>
    have hc := hd c (List.mem_cons_self ..)
    unfold dig at hc
    simp only [Bool.and_eq_true, decide_eq_true_eq] at hc
    have hu : Go.Lib.parseUintB 64 (c :: r) = .ok n := by
      unfold Go.Lib.parseUintB
      rw [if_neg (by simp)]
      exact hp
    unfold Go.Lib.parseIntB
    simp only
    rw [if_neg (by omega), hu]
    simp only
    rw [if_neg (by omega), if_neg (by omega), if_neg (by omega)]
theorem numR_some (n high : Nat) (h : n ≤ high) (hh : high < 10000000000) : numR (Go.Lib.decDigits n) (high : Int) = (n : Int) := by
  unfold numR
  rw [parse_dec n (by omega)]
  simp only
  refine if_pos ⟨by omega, by omega, ?_⟩
  unfold Go.Lib.itoa
  rw [if_neg (by omega), Int.toNat_natCast]
theorem numR_none (l : List UInt8) (high : Nat) (h : ∀ n, n ≤ high → l ≠ Go.Lib.decDigits n) : numR l (high : Int) = -1 := by
  unfold numR
  split
  · rename_i v hv
    refine if_neg (fun hc => ?_)
    obtain ⟨c1, c2, c3⟩ := hc
    refine h v.toNat (by omega) ?_
    rw [← c3]
    unfold Go.Lib.itoa
    rw [if_neg (by omega)]
  · rfl
/-- Both sides read a number up to a bound. -/
theorem number_both (s : ByteArray) (hs : s.size ≤ 281474976710656) (high : Nat) (hh : high < 10000000000) : ∃ o : Option Nat, Ev (fun k => spec_l01Number.f k s) (match o with | some n => ((n : Int), true) | none => (0, false)) ∧ (∀ n, o = some n → n < 10000000000) ∧
    impl_number.f s (high : Int) = some (match o with | some n => if n ≤ high then (n : Int) else -1 | none => -1) := by
  obtain ⟨o, ho, hev⟩ := num_spec s (by omega)
  refine ⟨o, hev, fun n hn => ((ho n).1 hn).2, ?_⟩
  unfold impl_number.f
  rw [if_pos hs]
  refine congrArg some ?_
  cases o with
  | none =>
    refine numR_none _ _ (fun n hn e => ?_)
    have := (ho n).2 ⟨e, by omega⟩
    simp at this
  | some n =>
    obtain ⟨e, hn⟩ := (ho n).1 rfl
    simp only
    rw [e]
    by_cases c : n ≤ high
    · rw [if_pos c]
      exact numR_some n high c hh
    · rw [if_neg c]
      refine numR_none _ _ (fun m hm e2 => ?_)
      have := dec_inj e2
      omega

theorem first_of (s : ByteArray) (h : 0 < s.size) : ∃ x t, s.data.toList = x :: t ∧ bt s 0 = (x.toNat : Int) ∧ (s.extract 0 (1 : Int).toNat).data.toList = [x] := by
  have hl : s.data.toList.length = s.size := Array.length_toList
  have hne : s.data.toList ≠ [] := by intro e; rw [e] at hl; simp at hl; omega
  obtain ⟨x, t, hx⟩ := List.exists_cons_of_ne_nil hne
  have hb := bt_list s 0 h
  rw [show ((0 : Nat) : Int) = 0 from rfl] at hb
  refine ⟨x, t, hx, ?_, ?_⟩
  · rw [hb]
    simp [hx]
  · rw [show (1 : Int).toNat = 1 from rfl, ByteArray.data_extract, Array.toList_extract, hx]
    rfl
theorem cut_yes (s : ByteArray) (h : 0 < s.size) (h42 : bt s 0 = 42) : strings_CutPrefix.f s (⟨#[42]⟩ : ByteArray) = some (s.extract 1 s.size, true) := by
  unfold strings_CutPrefix.f stringslite_CutPrefix.f stringslite_HasPrefix.f
  have e1 : (((⟨#[42]⟩ : ByteArray).size : Nat) : Int) = 1 := rfl
  obtain ⟨x, t, hx, hb, he⟩ := first_of s h
  rw [e1, if_pos (by omega), if_pos (by omega), if_pos (by omega)]
  have hp : ((s.extract 0 (1 : Int).toNat).toList == (⟨#[42]⟩ : ByteArray).toList) = true := by
    rw [beq_iff_eq, Go.Lib.toList_data, Go.Lib.toList_data, he]
    have : x = 42 := UInt8.toNat_inj.1 (by rw [show (42 : UInt8).toNat = 42 from rfl]; omega)
    rw [this]
  rw [hp]
  simp only [Option.bind_some, if_true]
  rw [if_pos (by omega), if_pos (by omega)]
  rfl
theorem cut_no (s : ByteArray) (h : s.size = 0 ∨ bt s 0 ≠ 42) : strings_CutPrefix.f s (⟨#[42]⟩ : ByteArray) = some (s, false) := by
  unfold strings_CutPrefix.f stringslite_CutPrefix.f stringslite_HasPrefix.f
  have e1 : (((⟨#[42]⟩ : ByteArray).size : Nat) : Int) = 1 := rfl
  rw [e1]
  by_cases h0 : s.size = 0
  · rw [if_neg (by omega)]
    rfl
  · obtain ⟨x, t, hx, hb, he⟩ := first_of s (by omega)
    rw [if_pos (by omega), if_pos (by omega), if_pos (by omega)]
    have hp : ((s.extract 0 (1 : Int).toNat).toList == (⟨#[42]⟩ : ByteArray).toList) = false := by
      rw [beq_eq_false_iff_ne, Go.Lib.toList_data, Go.Lib.toList_data, he]
      intro e
      have e2 : x = 42 := List.head_eq_of_cons_eq e
      rcases h with h | h
      · exact h0 h
      · rw [hb, e2] at h
        exact h rfl
    rw [hp]
    rfl
/-- Both sides read a nimber, or none. -/
theorem read_both (s : ByteArray) (hs : s.size ≤ 1048576) : ∃ o : Option Nat, (∀ n, o = some n → n ≤ 65535) ∧ Ev (fun k => spec_l01Read.f k s) (match o with | some n => ((n : Int), true) | none => (0, false)) ∧ impl_ReadNim.f s = some (match o with | some n => ((n : Int), (0 : Int)) | none => (0, 5)) := by
  have J : Ev (fun k => spec_l01Read.j0 k s true) (0, false) := by
    refine Ev_round ?_
    simp only [spec_l01Read.j0]
    exact Ev_pos (by trivial) (Ev.now _)
  have no : ∀ n, (none : Option Nat) = some n → n ≤ 65535 := fun n e => by cases e
  unfold spec_l01Read.f impl_ReadNim.f
  by_cases c0 : s.size = 0 ∨ bt s 0 ≠ 42
  · refine ⟨none, no, ?_, ?_⟩
    · by_cases c1 : s.size < 2
      · exact Ev_pos (by omega) J
      · refine Ev_neg (by omega) (Ev_pos (by omega) ?_)
        have : (bt s 0 != 42) = true := by
          rcases c0 with c0 | c0
          · omega
          · exact bne_iff_ne.mpr c0
        rw [this]
        exact J
    · rw [cut_no s c0]
      obtain ⟨o, _, _, hi⟩ := number_both s (by omega) 65535 (by omega)
      rw [show ((65535 : Nat) : Int) = 65535 from rfl] at hi
      simp only [Option.bind_some]
      rw [hi]
      rfl
  · have c1 : 0 < s.size := by omega
    have c2 : bt s 0 = 42 := by
      rcases Decidable.em (bt s 0 = 42) with q | q
      · exact q
      · exact absurd (.inr q) c0
    rw [cut_yes s c1 c2]
    simp only [Option.bind_some]
    have hz : (s.extract 1 s.size).size = s.size - 1 := by rw [ByteArray.size_extract]; omega
    obtain ⟨o, hsp, hlt, hi⟩ := number_both (s.extract 1 s.size) (by omega) 65535 (by omega)
    rw [show ((65535 : Nat) : Int) = 65535 from rfl] at hi
    rw [hi]
    simp only [Option.bind_some]
    have hread : ∀ q : Int × Bool, Ev (fun k => (spec_l01Number.f k (s.extract 1 s.size)).bind fun bt101 => (if bt101.2 = true then (if bt101.1 > 65535 then (some ((0 : Int), false)) else (some (IntKind.u16.wrap (bt101.1), true))) else (some (0, false)))) q → 2 ≤ s.size → Ev (fun k => if (s.size : Int) < 2 then (spec_l01Read.j0 k s true) else (if 0 < (s.size : Int) then (spec_l01Read.j0 k s ((bt s 0) != 42)) else (none))) q := by
      intro q hq h2
      refine Ev_neg (by omega) (Ev_pos (by omega) ?_)
      rw [c2]
      refine Ev_round ?_
      simp only [spec_l01Read.j0]
      exact Ev_neg (by simp) (Ev_pos (by omega) hq)
    by_cases c3 : 2 ≤ s.size
    · cases o with
      | none => exact ⟨none, no, hread (0, false) (Ev.bind hsp (Ev_neg (by simp) (Ev.now _))) c3, rfl⟩
      | some n =>
        have hn := hlt n rfl
        by_cases c4 : n ≤ 65535
        · refine ⟨some n, fun m e => by cases e; exact c4, hread ((n : Int), true) (Ev.bind hsp (Ev_pos (by trivial) (Ev_neg (by simp only; omega) (Ev_as (Ev.now _) ?_)))) c3, ?_⟩
          · simp only
            rw [wu16 (by omega) (by omega)]
          · simp only
            rw [if_pos (by trivial), if_pos c4, if_neg (by omega), wu16 (by omega) (by omega)]
        · refine ⟨none, no, hread (0, false) (Ev.bind hsp (Ev_pos (by trivial) (Ev_pos (by simp only; omega) (Ev.now _)))) c3, ?_⟩
          simp only
          rw [if_pos (by trivial), if_neg c4]
          rfl
    · have hs1 : s.size = 1 := by omega
      have ho : o = none := by
        cases o with
        | none => rfl
        | some n =>
          exfalso
          have hf : Ev (fun k => spec_l01Number.f k (s.extract 1 s.size)) (0, false) := by
            unfold spec_l01Number.f
            refine Ev_pos ?_ (Ev_round ?_)
            · rw [Go.Lib.toList_data]
              apply List.eq_nil_of_length_eq_zero
              rw [Array.length_toList]
              exact hz.trans (by omega)
            · simp only [spec_l01Number.j0]
              exact Ev_pos (by trivial) (Ev.now _)
          have := Ev_unique hsp hf
          simp at this
      subst ho
      exact ⟨none, no, Ev_pos (by omega) J, rfl⟩

theorem rdB_nat {xs : List ByteArray} {n : Nat} (h : n < xs.length) : rdOf ByteArray.empty xs (n : Int) = xs[n] := by simp [rdOf, List.getD_eq_getElem?_getD, List.getElem?_eq_getElem h]
theorem list_both (ws : List ByteArray) (hw : ∀ x ∈ ws, x.size ≤ 1048576) (hn : ws.length ≤ 1048577) : ∀ (d i : Nat) (acc : List Int), i + d = ws.length → acc.length ≤ i → ∃ q : Option (List Int), (∀ l, q = some l → l.length ≤ ws.length) ∧
    Ev (fun k => spec_l01ReadList.l0 k acc ws (i : Int)) (match q with | some l => (l, true) | none => ([], false)) ∧
    Ev (fun k => impl_ReadNims.l0 k acc ws (ws.length : Int) (i : Int)) (match q with | some l => (l, (0 : Int)) | none => ([], 5)) := by
  intro d
  induction d with
  | zero =>
    intro i acc h ha
    refine ⟨some acc, (fun l e => by cases e; omega), Ev_round ?_, Ev_round ?_⟩
    · simp only [spec_l01ReadList.l0]
      exact Ev_neg (by omega) (Ev.now _)
    · simp only [impl_ReadNims.l0]
      exact Ev_neg (by omega) (Ev.now _)
  | succ d ih =>
    intro i acc h ha
    have hi : i < ws.length := by omega
    obtain ⟨o, ho, h1, h2⟩ := read_both ws[i] (hw _ (List.getElem_mem hi))
    cases o with
    | none =>
      refine ⟨none, (fun l e => by cases e), Ev_round ?_, Ev_round ?_⟩
      · simp only [spec_l01ReadList.l0]
        rw [rdB_nat hi]
        exact Ev_pos (by omega) (Ev_pos (by omega) (Ev.bind h1 (Ev_neg (by simp) (Ev.now _))))
      · simp only [impl_ReadNims.l0]
        rw [rdB_nat hi, h2]
        simp only [Option.bind_some]
        exact Ev_pos (by omega) (Ev_pos (by omega) (Ev_pos (by omega) (Ev_neg (by simp) (Ev.now _))))
    | some n =>
      obtain ⟨q, q1, q2, q3⟩ := ih (i + 1) (acc ++ [(n : Int)]) (by omega) (by simp; omega)
      refine ⟨q, q1, Ev_round ?_, Ev_round ?_⟩
      · simp only [spec_l01ReadList.l0]
        rw [rdB_nat hi, w64 (by omega) (by omega)]
        exact Ev_pos (by omega) (Ev_pos (by omega) (Ev.bind h1 (Ev_pos (by trivial) (Ev_pos (by omega) q2))))
      · simp only [impl_ReadNims.l0]
        rw [rdB_nat hi, h2]
        simp only [Option.bind_some]
        rw [w64 (by omega) (by omega)]
        exact Ev_pos (by omega) (Ev_pos (by omega) (Ev_pos (by omega) (Ev_pos (by trivial) (Ev_pos (by omega) q3))))
theorem ev_all {α : Type} (g : Nat → Nat → Option α) (r : Nat → α) : ∀ R, (∀ i, i < R → Ev (g i) (r i)) → ∃ k0, ∀ k, k0 ≤ k → ∀ i, i < R → g i k = some (r i) := by
  intro R
  induction R with
  | zero => intro _; exact ⟨0, fun _ _ i hi => by omega⟩
  | succ R ih =>
    intro h
    obtain ⟨k1, h1⟩ := ih (fun i hi => h i (by omega))
    obtain ⟨k2, h2⟩ := h R (by omega)
    refine ⟨k1 + k2, fun k hk i hi => ?_⟩
    by_cases c : i = R
    · rw [c]
      exact h2 k (by omega)
    · exact h1 k (by omega) i (by omega)
/-- A row's text is read by both alike. -/
theorem list_word (s : ByteArray) (hs : s.size ≤ 1048576) : ∃ q : Option (List Int), Ev (fun k => spec_l01ReadList.f k s) (match q with | some l => (l, true) | none => ([], false)) ∧ Ev (fun k => impl_ReadNims.f k s) (match q with | some l => (l, (0 : Int)) | none => ([], 5)) := by
  have hl : s.data.toList.length = s.size := Array.length_toList
  unfold impl_ReadNims.f spec_l01ReadList.f
  simp only [Option.bind_some]
  by_cases c0 : s.toList = ([] : List UInt8)
  · exact ⟨some [], Ev_pos c0 (Ev.now _), Ev_pos c0 (Ev.now _)⟩
  · have hsp := split_spec s 32 (by omega)
    rw [show (((32 : UInt8).toNat : Nat) : Int) = 32 from rfl] at hsp
    obtain ⟨m1, m2⟩ := cutL_mem 32 s.data.toList []
    have hwl : ((cutL 32 [] s.data.toList).map mkB).length ≤ 1048577 := by rw [List.length_map]; omega
    obtain ⟨q, q1, q2, q3⟩ := list_both ((cutL 32 [] s.data.toList).map mkB) (by
      intro x hx
      obtain ⟨y, hy, rfl⟩ := List.mem_map.1 hx
      have := m1 y hy
      show y.toArray.size ≤ _
      rw [List.size_toArray]
      simp only [List.length_nil] at this
      omega) hwl ((cutL 32 [] s.data.toList).map mkB).length 0 [] (by omega) (by simp)
    have hcut : strings_Split.f s (⟨#[32]⟩ : ByteArray) = some ((cutL 32 [] s.data.toList).map mkB) := by
      rw [← splitS_cut]
      exact if_pos ⟨by omega, Nat.le_refl 1⟩
    rw [hcut]
    simp only [Option.bind_some]
    exact ⟨q, Ev_neg c0 (Ev.bind hsp q2), Ev_neg c0 q3⟩
/-- The rows' texts, and each row's reading. -/
theorem read_rows (s : ByteArray) (hs : s.size ≤ 1048576) : ∃ (k : Nat) (ws : List ByteArray) (L : Nat → Option (List Int)), spec_l01Split.f k s 59 = some ws ∧ strings_Split.f s (⟨#[59]⟩ : ByteArray) = some ws ∧
    (∀ i, i < ws.length → spec_l01ReadList.f k (rdOf ByteArray.empty ws (i : Int)) = some (match L i with | some l => (l, true) | none => ([], false))) ∧
    (∀ i, i < ws.length → impl_ReadNims.f k (rdOf ByteArray.empty ws (i : Int)) = some (match L i with | some l => (l, (0 : Int)) | none => ([], 5))) := by
  have hl : s.data.toList.length = s.size := Array.length_toList
  have hsp := split_spec s 59 (by omega)
  rw [show (((59 : UInt8).toNat : Nat) : Int) = 59 from rfl] at hsp
  obtain ⟨m1, m2⟩ := cutL_mem 59 s.data.toList []
  have hcut : strings_Split.f s (⟨#[59]⟩ : ByteArray) = some ((cutL 59 [] s.data.toList).map mkB) := by
    rw [← splitS_cut]
    exact if_pos ⟨by omega, Nat.le_refl 1⟩
  have hz : ∀ x ∈ (cutL 59 [] s.data.toList).map mkB, x.size ≤ 1048576 := by
    intro x hx
    obtain ⟨y, hy, rfl⟩ := List.mem_map.1 hx
    have := m1 y hy
    show y.toArray.size ≤ _
    rw [List.size_toArray]
    simp only [List.length_nil] at this
    omega
  generalize (cutL 59 [] s.data.toList).map mkB = ws at hsp hcut hz
  have hz2 : ∀ i : Nat, (rdOf ByteArray.empty ws (i : Int)).size ≤ 1048576 := by
    intro i
    by_cases hi : i < ws.length
    · rw [rdB_nat hi]
      exact hz _ (List.getElem_mem hi)
    · have : rdOf ByteArray.empty ws (i : Int) = ByteArray.empty := by simp [rdOf, List.getD_eq_getElem?_getD, List.getElem?_eq_none (show ws.length ≤ i by omega)]
      rw [this]
      exact Nat.zero_le _
  have ex : ∃ L : Nat → Option (List Int), ∀ i : Nat, Ev (fun k => spec_l01ReadList.f k (rdOf ByteArray.empty ws (i : Int))) (match L i with | some l => (l, true) | none => ([], false)) ∧ Ev (fun k => impl_ReadNims.f k (rdOf ByteArray.empty ws (i : Int))) (match L i with | some l => (l, (0 : Int)) | none => ([], 5)) :=
    ⟨fun i : Nat => Classical.choose (list_word _ (hz2 i)), fun i : Nat => Classical.choose_spec (list_word _ (hz2 i))⟩
  obtain ⟨L, hL⟩ := ex
  obtain ⟨k1, h1⟩ := ev_all (fun i k => spec_l01ReadList.f k (rdOf ByteArray.empty ws (i : Int))) (fun i => match L i with | some l => (l, true) | none => ([], false)) ws.length (fun i _ => (hL i).1)
  obtain ⟨k2, h2⟩ := ev_all (fun i k => impl_ReadNims.f k (rdOf ByteArray.empty ws (i : Int))) (fun i => match L i with | some l => (l, (0 : Int)) | none => ([], 5)) ws.length (fun i _ => (hL i).2)
  obtain ⟨k0, h0⟩ := hsp
  exact ⟨k0 + k1 + k2, ws, L, h0 _ (by omega), hcut, fun i hi => h1 _ (by omega) i hi, fun i hi => h2 _ (by omega) i hi⟩

end Go.Proofs.YtdgglnjegkmamaaDoor.Pure
