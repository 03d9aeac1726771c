/- MatrixText: both programs' texts of a row are one; joined they are the matrix's text. No condition but the kinds' bounds. -/
import Derived.Test.YtdgglnjegkmamaaDoorQFnExactMatrixTextx1
import Derived.Test.YtdgglnjegkmamaaDoorLib
set_option linter.unusedVariables false
set_option linter.unusedSimpArgs false
namespace Go.Proofs.YtdgglnjegkmamaaDoor.Pure
open Go.RowKit Go.Proofs.YtdgglnjegkmamaaDoor.QFnExactMatrixText Go.Proofs.YtdgglnjegkmamaaDoorW.PrintWords Go.Proofs.YtdgglnjegkmamaaDoorW.PrintLast Go.Proofs.YtdgglnjegkmamaaDoor.Lib

def decS (n : Nat) : ByteArray := ⟨(Go.Lib.decDigits n).toArray⟩
theorem nDigits_le (u : Nat) : Go.Lib.nDigits u ≤ u + 1 := by
  induction u using Nat.strongRecOn with
  | ind u ih =>
    by_cases h : u < 10
    · rw [Go.Lib.nDigits_small h]; omega
    · rw [Go.Lib.nDigits_big h]
      have := ih (u / 10) (by omega)
      omega
theorem decS_size (n : Nat) : (decS n).size = Go.Lib.nDigits n := by
  show (Go.Lib.decDigits n).toArray.size = _
  rw [List.size_toArray, Go.Lib.decDigits_length]
theorem digit_one (n : Nat) : strOfNums ([(wrap64 (48 + (Int.tmod (n : Int) 10))) % 256] : List Int) = ⟨#[UInt8.ofNat (48 + n % 10)]⟩ := by
  have e : (wrap64 (48 + (Int.tmod (n : Int) 10))) % 256 = ((48 + n % 10 : Nat) : Int) := by
    rw [Int.tmod_eq_emod_of_nonneg (by omega), w64 (by omega) (by omega)]
    omega
  rw [e]
  rfl
theorem decS_big {n : Nat} (h : ¬ n < 10) : decS n = decS (n / 10) ++ (⟨#[UInt8.ofNat (48 + n % 10)]⟩ : ByteArray) := by
  apply ByteArray.ext
  show (Go.Lib.decDigits n).toArray = _
  rw [Go.Lib.decDigits, dif_neg h]
  simp [decS, ByteArray.data_append]
theorem dec_ev : ∀ (n : Nat), n ≤ 9223372036854775807 → Ev (fun k => spec_Decimal.f k (n : Int)) (decS n) := by
  intro n
  induction n using Nat.strongRecOn with
  | ind n ih =>
    intro hn
    refine Ev_round ?_
    simp only [spec_Decimal.f]
    by_cases h : n < 10
    · refine Ev_pos (by omega) (Ev_as (Ev.now _) ?_)
      rw [digit_one]
      unfold decS
      rw [Go.Lib.decDigits_one h, show n % 10 = n by omega]
    · refine Ev_neg (by omega) ?_
      rw [Int.tdiv_eq_ediv_of_nonneg (by omega), w64 (by omega) (by omega), show (n : Int) / 10 = ((n / 10 : Nat) : Int) by omega]
      refine Ev.bind (ih (n / 10) (by omega) (by omega)) ?_
      simp only [Option.bind_some]
      rw [digit_one]
      have h1 := decS_size (n / 10)
      have h2 := nDigits_le (n / 10)
      have h3 : (⟨#[UInt8.ofNat (48 + n % 10)]⟩ : ByteArray).size = 1 := rfl
      refine Ev_pos (by rw [h1, h3]; omega) ?_
      rw [← decS_big h]
      exact Ev.now _

/-- The words of a joined list, one by one. -/
theorem joinS_snoc (l : List ByteArray) (s x : ByteArray) (h : l ≠ []) : joinS (l ++ [x]) s = joinS l s ++ s ++ x := by
  apply ByteArray.ext
  simp only [joinS, ByteArray.data_append]
  cases l with
  | nil => exact absurd rfl h
  | cons a t =>
    rw [List.cons_append, List.map_cons, List.map_cons, Go.Lib.join_cons, Go.Lib.join_cons, List.map_append]
    simp [Go.Lib.joinTail]
theorem joinS_nil (s : ByteArray) : joinS [] s = ⟨#[]⟩ := rfl
theorem joinS_one (x s : ByteArray) : joinS [x] s = x := by
  apply ByteArray.ext
  simp [joinS, Go.Lib.join_one]
theorem joinTail_le (s : List UInt8) (B : Nat) : ∀ (r : List (List UInt8)), (∀ x ∈ r, x.length ≤ B) → (Go.Lib.joinTail s r).length ≤ r.length * (s.length + B) := by
  intro r
  induction r with
  | nil => intro _; simp [Go.Lib.joinTail]
  | cons y t ih =>
    intro h
    have h1 := ih (fun x hx => h x (List.mem_cons_of_mem _ hx))
    have h2 := h y (List.mem_cons_self ..)
    have e : Go.Lib.joinTail s (y :: t) = (s ++ y) ++ Go.Lib.joinTail s t := by simp [Go.Lib.joinTail]
    rw [e, List.length_append, List.length_append, List.length_cons, Nat.succ_mul]
    omega
theorem joinS_le (l : List ByteArray) (s : ByteArray) (B : Nat) (h : ∀ x ∈ l, x.size ≤ B) : (joinS l s).size ≤ l.length * (s.size + B) := by
  rw [joinS_size]
  cases l with
  | nil => simp [Go.Lib.join_nil]
  | cons a t =>
    rw [List.map_cons, Go.Lib.join_cons, List.length_append]
    have h1 := joinTail_le s.data.toList B (t.map (·.data.toList)) (by
      intro x hx
      obtain ⟨y, hy, rfl⟩ := List.mem_map.1 hx
      have := h y (List.mem_cons_of_mem _ hy)
      show y.data.toList.length ≤ B
      rw [Array.length_toList]
      exact this)
    have h2 := h a (List.mem_cons_self ..)
    rw [List.length_map] at h1
    have h3 : a.data.toList.length = a.size := Array.length_toList
    have h4 : s.data.toList.length = s.size := Array.length_toList
    rw [h4] at h1
    rw [h3, List.length_cons, Nat.succ_mul]
    omega

theorem dec_nat (n : Nat) (h : n ≤ 9223372036854775807) : impl_dec.f (n : Int) = some (decS n) := by
  unfold impl_dec.f strconv_FormatInt_67.f
  rw [if_pos rfl, if_pos (by omega)]
  simp only [Option.bind_some]
  refine congrArg some ?_
  unfold decS Go.Lib.itoa
  rw [if_neg (by omega), Int.toNat_natCast]

def nimS (n : Nat) : ByteArray := (⟨#[42]⟩ : ByteArray) ++ decS n
theorem decS_small {n : Nat} (h : n ≤ 65535) : (decS n).size ≤ 65536 := by
  have h1 := decS_size n
  have h2 := nDigits_le n
  omega
theorem impl_nim (n : Nat) (h : n ≤ 65535) : impl_NimText.f (n : Int) = some (nimS n) := by
  unfold impl_NimText.f
  rw [w64 (by omega) (by omega), dec_nat n (by omega)]
  simp only [Option.bind_some]
  have := decS_small h
  rw [if_pos (by omega)]
  rfl
theorem spec_nim (n : Nat) (h : n ≤ 65535) : Ev (fun k => spec_l01Text.f k (n : Int)) (nimS n) := by
  unfold spec_l01Text.f
  rw [w64 (by omega) (by omega)]
  have := decS_small h
  exact Ev.bind (dec_ev n (by omega)) (Ev_pos (by omega) (Ev.now _))

/-- A nimber's word. -/
def wd (x : Int) : ByteArray := nimS x.toNat
theorem wd_size {x : Int} (h : 0 ≤ x ∧ x ≤ 65535) : (wd x).size ≤ 65537 := by
  have h1 := decS_small (n := x.toNat) (by omega)
  unfold wd nimS
  rw [ByteArray.size_append]
  have : (⟨#[42]⟩ : ByteArray).size = 1 := rfl
  omega
theorem impl_wd {x : Int} (h : 0 ≤ x ∧ x ≤ 65535) : impl_NimText.f x = some (wd x) := by
  have := impl_nim x.toNat (by omega)
  rw [show ((x.toNat : Nat) : Int) = x by omega] at this
  exact this
theorem spec_wd {x : Int} (h : 0 ≤ x ∧ x ≤ 65535) : Ev (fun k => spec_l01Text.f k x) (wd x) := by
  have := spec_nim x.toNat (by omega)
  rw [show ((x.toNat : Nat) : Int) = x by omega] at this
  exact this
def spc : ByteArray := ⟨#[32]⟩
theorem words_le (l : List Int) (hl : ∀ x ∈ l, 0 ≤ x ∧ x ≤ 65535) (hn : l.length ≤ 1048576) (n : Nat) : (joinS ((l.take n).map wd) spc).size ≤ 68722622464 := by
  have h1 := joinS_le ((l.take n).map wd) spc 65537 (by
    intro x hx
    obtain ⟨y, hy, rfl⟩ := List.mem_map.1 hx
    exact wd_size (hl y (List.mem_of_mem_take hy)))
  have h2 : spc.size = 1 := rfl
  rw [List.length_map, List.length_take, h2] at h1
  have h3 : min n l.length ≤ 1048576 := by omega
  have := Nat.mul_le_mul_right (1 + 65537) h3
  omega
theorem words_succ (l : List Int) (n : Nat) (h : n < l.length) : (l.take (n + 1)).map wd = (l.take n).map wd ++ [wd l[n]] := by
  rw [List.take_succ_eq_append_getElem h, List.map_append]
  rfl
theorem impl_words_ev (l : List Int) (hl : ∀ x ∈ l, 0 ≤ x ∧ x ≤ 65535) (hn : l.length ≤ 1048576) : ∀ (d n : Nat), n + d = l.length → Ev (fun k => impl_nimsText.l0 k ((l.take n).map wd) l (l.length : Int) (n : Int)) (joinS (l.map wd) spc) := by
  intro d
  induction d with
  | zero =>
    intro n h
    refine Ev_round ?_
    simp only [impl_nimsText.l0]
    refine Ev_neg (by omega) (Ev_bind1 (a := joinS (l.map wd) spc) ?_ (Ev.now _))
    have hw := words_le l hl hn l.length
    rw [List.take_of_length_le (Nat.le_refl _)] at hw
    rw [List.take_of_length_le (by omega)]
    unfold strings_Join.f
    exact if_pos ⟨by rw [List.length_map]; omega, Nat.le_trans hw (by decide)⟩
  | succ d ih =>
    intro n h
    refine Ev_round ?_
    simp only [impl_nimsText.l0]
    have hlt : n < l.length := by omega
    refine Ev_pos (by omega) (Ev_pos (by omega) (Ev_pos (by omega) ?_))
    rw [rd_nat hlt]
    refine Ev_bind1 (impl_wd (hl _ (List.getElem_mem hlt))) (Ev_pos (by rw [List.length_map, List.length_take]; omega) ?_)
    rw [w64 (by omega) (by omega), ← words_succ l n hlt]
    exact ih (n + 1) (by omega)
theorem spec_words_ev (l : List Int) (hl : ∀ x ∈ l, 0 ≤ x ∧ x ≤ 65535) (hn : l.length ≤ 1048576) : ∀ (d n : Nat), n + d = l.length → Ev (fun k => spec_l01ListText.l0 k l (joinS ((l.take n).map wd) spc) (n : Int)) (joinS (l.map wd) spc) := by
  intro d
  induction d with
  | zero =>
    intro n h
    refine Ev_round ?_
    simp only [spec_l01ListText.l0]
    rw [List.take_of_length_le (by omega)]
    exact Ev_neg (by omega) (Ev.now _)
  | succ d ih =>
    intro n h
    refine Ev_round ?_
    simp only [spec_l01ListText.l0]
    have hlt : n < l.length := by omega
    have hw := words_le l hl hn n
    have hx := hl _ (List.getElem_mem hlt)
    have hs := wd_size hx
    refine Ev_pos (by omega) ?_
    rw [rd_nat hlt, w64 (by omega) (by omega)]
    by_cases h0 : n = 0
    · subst h0
      refine Ev_neg (by omega) (Ev_pos (by omega) (Ev.bind (spec_wd hx) ?_))
      have e : joinS ((l.take 0).map wd) spc = ⟨#[]⟩ := rfl
      have e2 : joinS ((l.take (0 + 1)).map wd) spc = (⟨#[]⟩ : ByteArray) ++ wd l[0] := by
        rw [words_succ l 0 hlt]
        show joinS [wd l[0]] spc = _
        rw [joinS_one]
        apply ByteArray.ext
        simp [ByteArray.data_append]
      rw [e] at hw ⊢
      refine Ev_pos (by omega) ?_
      rw [← e2]
      exact ih (0 + 1) (by omega)
    · have hsp : (⟨#[32]⟩ : ByteArray).size = 1 := rfl
      refine Ev_pos (by omega) (Ev_pos (by omega) (Ev_pos (by omega) (Ev.bind (spec_wd hx) (Ev_pos (by rw [ByteArray.size_append, hsp]; omega) ?_))))
      have e2 : joinS ((l.take (n + 1)).map wd) spc = joinS ((l.take n).map wd) spc ++ (⟨#[32]⟩ : ByteArray) ++ wd l[n] := by
        rw [words_succ l n hlt]
        refine joinS_snoc _ _ _ ?_
        intro hc
        have := congrArg List.length hc
        rw [List.length_map, List.length_take, List.length_nil] at this
        omega
      rw [← e2]
      exact ih (n + 1) (by omega)

theorem ev_all {α : Type} (g : Nat → Nat → Option α) (r : Nat → α) : ∀ R, (∀ i, i < R → Ev (g i) (r i)) → ∃ k0, ∀ k, k0 ≤ k → ∀ i, i < R → g i k = some (r i) := by
  intro R
  induction R with
  | zero => intro _; exact ⟨0, fun _ _ i hi => by omega⟩
  | succ R ih =>
    intro h
    obtain ⟨k1, h1⟩ := ih (fun i hi => h i (by omega))
    obtain ⟨k2, h2⟩ := h R (by omega)
    refine ⟨k1 + k2, fun k hk i hi => ?_⟩
    by_cases c : i = R
    · rw [c]
      exact h2 k (by omega)
    · exact h1 k (by omega) i (by omega)
/-- A row's text. -/
def rowT (l : List Int) : ByteArray := joinS (l.map wd) spc
theorem rowT_spec (l : List Int) (hl : ∀ x ∈ l, 0 ≤ x ∧ x ≤ 65535) (hn : l.length ≤ 6) : Ev (fun k => spec_l01ListText.f k l) (rowT l) :=
  spec_words_ev l hl (by omega) l.length 0 (by omega)
theorem rowT_impl (l : List Int) (hl : ∀ x ∈ l, 0 ≤ x ∧ x ≤ 65535) (hn : l.length ≤ 6) : Ev (fun k => impl_nimsText.f k l) (rowT l) :=
  impl_words_ev l hl (by omega) l.length 0 (by omega)
theorem rowT_size (l : List Int) (hl : ∀ x ∈ l, 0 ≤ x ∧ x ≤ 65535) (hn : l.length ≤ 6) : (rowT l).size ≤ 400000 := by
  have h1 := joinS_le (l.map wd) spc 65537 (by
    intro x hx
    obtain ⟨y, hy, rfl⟩ := List.mem_map.1 hx
    exact wd_size (hl y hy))
  have h2 : spc.size = 1 := rfl
  rw [List.length_map, h2] at h1
  unfold rowT
  omega
/-- The rows' texts, and how both programs find them. -/
theorem rows_text (R : Nat) (cut : Nat → List Int) (hl : ∀ i, i < R → (cut i).length ≤ 6) (hx : ∀ i, ∀ x ∈ cut i, 0 ≤ x ∧ x ≤ 65535) :
    ∃ k, (∀ i, i < R → spec_l01ListText.f k (cut i) = some (rowT (cut i))) ∧ (∀ i, i < R → impl_nimsText.f k (cut i) = some (rowT (cut i))) := by
  obtain ⟨k1, h1⟩ := ev_all (fun i k => spec_l01ListText.f k (cut i)) (fun i => rowT (cut i)) R (fun i hi => rowT_spec _ (hx i) (hl i hi))
  obtain ⟨k2, h2⟩ := ev_all (fun i k => impl_nimsText.f k (cut i)) (fun i => rowT (cut i)) R (fun i hi => rowT_impl _ (hx i) (hl i hi))
  exact ⟨k1 + k2, fun i hi => h1 _ (by omega) i hi, fun i hi => h2 _ (by omega) i hi⟩

end Go.Proofs.YtdgglnjegkmamaaDoor.Pure
