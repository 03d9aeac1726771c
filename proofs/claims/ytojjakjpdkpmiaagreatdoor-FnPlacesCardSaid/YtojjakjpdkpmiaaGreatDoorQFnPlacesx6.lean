/- Written by the session's own program (wip/myprint.py), for the law FnPlaces: each function as a plain Lean function, and its contract. -/
import Derived.Test.YtojjakjpdkpmiaaGreatDoorQFnPlacesx0
import Derived.Test.YtojjakjpdkpmiaaGreatDoorQFnPlacesx2
import Derived.Test.YtojjakjpdkpmiaaGreatDoorQFnPlacesx5
namespace Go.Proofs.YtojjakjpdkpmiaaGreatDoor.QFnPlaces
open Go.RowKit Go.Proofs.YtojjakjpdkpmiaaGreatDoorW.PrintWords Go.Proofs.YtojjakjpdkpmiaaGreatDoorW.PrintLast Go.Proofs.YtojjakjpdkpmiaaGreatDoorW.PrintMore
attribute [local go_sem] max2_int min2_int max_two min_two max_three min_three max_four min_four   -- for this text's walks alone
set_option linter.unusedVariables false
set_option linter.unusedSimpArgs false

/-! ### impl_FirstBroken: function 9 -/
def impl_FirstBroken.f (k : Nat) (l0 : List (List Int)) (l1 : List Int) : Option (Int × Int) := (impl_ValidGame.f k l0).bind fun t229 => (if t229 = true then ((impl_Game_firstBroken.f k l0 l1).bind fun t230 => (if t230 < 0 then (some (0, 6)) else (some (t230, 0)))) else (some (0, 1)))
theorem impl_FirstBroken.mono : ∀ a0 a1 k, LeO (impl_FirstBroken.f k a0 a1) (impl_FirstBroken.f (k + 1) a0 a1) := by
  intro a0 a1 k
  unfold impl_FirstBroken.f
  repeat' first
      | (with_reducible exact impl_Game_firstBroken.mono _ _ _)
      | (with_reducible exact impl_ValidGame.mono _ _)
      | (with_reducible exact LeO.refl _)
      | (with_reducible exact LeO.none _)
      | (with_reducible refine LeO.ite ?_ ?_)
      | (with_reducible refine LeO.bind ?_ (fun _ => ?_))
      | exact impl_Game_firstBroken.mono _ _ _
      | exact impl_ValidGame.mono _ _
      | exact LeO.none _
      | refine LeO.ite ?_ ?_
      | refine LeO.bind ?_ (fun _ => ?_)
set_option maxHeartbeats 8000000 in
set_option maxRecDepth 100000 in
theorem impl_FirstBroken.calls (k : Nat) (A0 : Option Addr) (c0 : Nat) (l0 : List (List Int)) (A1 : Option Addr) (c1 : Nat) (l1 : List Int) (r1 : Int) (r2 : Int) (w : World) (hr0 : Kd.C (Kd.slice 66 (Kd.int .i8)) w A0 l0.length l0) (hc0 : l0.length ≤ c0) (hr1 : Kd.C (Kd.int .u16) w A1 l1.length l1) (hc1 : l1.length ≤ c1) (h : impl_FirstBroken.f k l0 l1 = some (r1, r2)) :
    Calls Tryz.prog 9 #[.slice A0 l0.length c0, .slice A1 l1.length c1] w fun e w' => e = .returned (.tuple #[.int .i64 r1, .int .i64 r2]) ∧ Below w.heap.size w w' := by
  have HR0 := Aside0.mk hr0
  have HC0 := Aside0.mk hc0
  clear hr0 hc0
  have HR1 := Aside0.mk hr1
  have HC1 := Aside0.mk hc1
  clear hr1 hc1
  have HB := Aside0.mk (Below.refl w.heap.size w)
  have H : ((impl_ValidGame.f k l0).bind fun t229 => (if t229 = true then ((impl_Game_firstBroken.f k l0 l1).bind fun t230 => (if t230 < 0 then (some (0, 6)) else (some (t230, 0)))) else (some (0, 1)))) = some (r1, r2) := h
  clear h
  replace H := Option.bind_eq_some_iff.mp H
  obtain ⟨t229, A30, H⟩ := H
  replace H : (if t229 = true then ((impl_Game_firstBroken.f k l0 l1).bind fun t230 => (if t230 < 0 then (some (0, 6)) else (some (t230, 0)))) else (some (0, 1))) = some (r1, r2) := H
  have A3 := Aside0.mk A30
  clear A30
  by_cases c4 : t229 = true
  · subst c4
    have H1 : ((impl_Game_firstBroken.f k l0 l1).bind fun t230 => (if t230 < 0 then (some (0, 6)) else (some (t230, 0)))) = some (r1, r2) := by rw [if_pos rfl] at H; exact H
    clear H
    have H := H1
    clear H1
    replace H := Option.bind_eq_some_iff.mp H
    obtain ⟨t230, A50, H⟩ := H
    replace H : (if t230 < 0 then (some (0, 6)) else (some (t230, 0))) = some (r1, r2) := H
    have A5 := Aside0.mk A50
    clear A50
    by_cases c6 : t230 < 0
    · rw [if_pos c6] at H
      have c6b0 : decide (t230 < 0) = true := decide_eq_true c6
      clear c6
      simp only [Option.some.injEq, Prod.mk.injEq] at H
      obtain ⟨rfl, rfl⟩ := H
      go_enter Tryz.func9, Tryz.ntmps9
      go_wp2_with (first | ((with_reducible refine gate_callee (f := 15) rfl ?_); refine goesL_ (some 8) rfl rfl Tryz.func15 (by kernel_rfl) rfl #[.slice A0 l0.length c0] rfl (by (try simp only [List.map_toArray, List.map_cons, List.map_nil]); first | done | rfl | (simp only [List.length_drop, List.length_take]; rfl)) ?_; (with_reducible refine (impl_ValidGame.calls k _ _ l0 true _ ?side1 ?side2 A3.out).mono ?_); (case side1 => repeat (first | exact HR0.out | (with_reducible refine Kd.C_alloc ?_ _) | (with_reducible refine Kd.C_drewN ?_ _) | (with_reducible refine Kd.C_drew ?_))); (case side2 => exact HC0.out); rintro e w' ⟨rfl, ⟨nd, rfl⟩⟩; refine ⟨_, rfl, ?_⟩) | ((with_reducible refine gate_callee (f := 30) rfl ?_); refine goesL_ (some 12) rfl rfl Tryz.func30 (by kernel_rfl) rfl #[.slice A0 l0.length c0, .slice A1 l1.length c1] rfl (by (try simp only [List.map_toArray, List.map_cons, List.map_nil]); first | done | rfl | (simp only [List.length_drop, List.length_take]; rfl)) ?_; (with_reducible refine (impl_Game_firstBroken.calls k _ _ l0 _ _ l1 t230 _ ?side1 ?side2 ?side3 ?side4 A5.out).mono ?_); (case side1 => repeat (first | exact HR0.out | (with_reducible refine Kd.C_alloc ?_ _) | (with_reducible refine Kd.C_drewN ?_ _) | (with_reducible refine Kd.C_drew ?_))); (case side2 => exact HC0.out); (case side3 => repeat (first | exact HR1.out | (with_reducible refine Kd.C_alloc ?_ _) | (with_reducible refine Kd.C_drewN ?_ _) | (with_reducible refine Kd.C_drew ?_))); (case side4 => exact HC1.out); rintro e w7 ⟨rfl, hb⟩; refine ⟨_, rfl, ?_⟩; have n0_ := Aside0.mk (below_step (by repeat (first | (with_reducible first | exact HB.out | apply below_alloc | apply pw_below_drewN | apply below_drew1) | exact HB.out)) hb); clear HB; have HB := n0_; clear n0_; (try clear hb); (try clear hb2); (try clear hk); (try clear hi)))
      go_ret2
      exact ⟨by first | rfl | (simp [errW_none, errW_some] <;> rfl) | (simp [*, errW_none, errW_some] <;> rfl), by repeat (first | (with_reducible first | exact HB.out | apply below_alloc | apply pw_below_drewN | apply below_drew1) | exact HB.out)⟩
    · rw [if_neg c6] at H
      have c6b0 : decide (t230 < 0) = false := decide_eq_false c6
      clear c6
      simp only [Option.some.injEq, Prod.mk.injEq] at H
      obtain ⟨rfl, rfl⟩ := H
      go_enter Tryz.func9, Tryz.ntmps9
      go_wp2_with (first | ((with_reducible refine gate_callee (f := 15) rfl ?_); refine goesL_ (some 8) rfl rfl Tryz.func15 (by kernel_rfl) rfl #[.slice A0 l0.length c0] rfl (by (try simp only [List.map_toArray, List.map_cons, List.map_nil]); first | done | rfl | (simp only [List.length_drop, List.length_take]; rfl)) ?_; (with_reducible refine (impl_ValidGame.calls k _ _ l0 true _ ?side1 ?side2 A3.out).mono ?_); (case side1 => repeat (first | exact HR0.out | (with_reducible refine Kd.C_alloc ?_ _) | (with_reducible refine Kd.C_drewN ?_ _) | (with_reducible refine Kd.C_drew ?_))); (case side2 => exact HC0.out); rintro e w' ⟨rfl, ⟨nd, rfl⟩⟩; refine ⟨_, rfl, ?_⟩) | ((with_reducible refine gate_callee (f := 30) rfl ?_); refine goesL_ (some 12) rfl rfl Tryz.func30 (by kernel_rfl) rfl #[.slice A0 l0.length c0, .slice A1 l1.length c1] rfl (by (try simp only [List.map_toArray, List.map_cons, List.map_nil]); first | done | rfl | (simp only [List.length_drop, List.length_take]; rfl)) ?_; (with_reducible refine (impl_Game_firstBroken.calls k _ _ l0 _ _ l1 t230 _ ?side1 ?side2 ?side3 ?side4 A5.out).mono ?_); (case side1 => repeat (first | exact HR0.out | (with_reducible refine Kd.C_alloc ?_ _) | (with_reducible refine Kd.C_drewN ?_ _) | (with_reducible refine Kd.C_drew ?_))); (case side2 => exact HC0.out); (case side3 => repeat (first | exact HR1.out | (with_reducible refine Kd.C_alloc ?_ _) | (with_reducible refine Kd.C_drewN ?_ _) | (with_reducible refine Kd.C_drew ?_))); (case side4 => exact HC1.out); rintro e w8 ⟨rfl, hb⟩; refine ⟨_, rfl, ?_⟩; have n0_ := Aside0.mk (below_step (by repeat (first | (with_reducible first | exact HB.out | apply below_alloc | apply pw_below_drewN | apply below_drew1) | exact HB.out)) hb); clear HB; have HB := n0_; clear n0_; (try clear hb); (try clear hb2); (try clear hk); (try clear hi)))
      go_ret2
      exact ⟨by first | rfl | (simp [errW_none, errW_some] <;> rfl) | (simp [*, errW_none, errW_some] <;> rfl), by repeat (first | (with_reducible first | exact HB.out | apply below_alloc | apply pw_below_drewN | apply below_drew1) | exact HB.out)⟩
  · replace c4 := Bool.eq_false_iff.mpr c4
    subst c4
    have H1 : (some (0, 1)) = some (r1, r2) := by rw [if_neg (show ¬ (false = true) by decide)] at H; exact H
    clear H
    have H := H1
    clear H1
    simp only [Option.some.injEq, Prod.mk.injEq] at H
    obtain ⟨rfl, rfl⟩ := H
    go_enter Tryz.func9, Tryz.ntmps9
    go_wp2_with (first | ((with_reducible refine gate_callee (f := 15) rfl ?_); refine goesL_ (some 8) rfl rfl Tryz.func15 (by kernel_rfl) rfl #[.slice A0 l0.length c0] rfl (by (try simp only [List.map_toArray, List.map_cons, List.map_nil]); first | done | rfl | (simp only [List.length_drop, List.length_take]; rfl)) ?_; (with_reducible refine (impl_ValidGame.calls k _ _ l0 false _ ?side1 ?side2 A3.out).mono ?_); (case side1 => repeat (first | exact HR0.out | (with_reducible refine Kd.C_alloc ?_ _) | (with_reducible refine Kd.C_drewN ?_ _) | (with_reducible refine Kd.C_drew ?_))); (case side2 => exact HC0.out); rintro e w' ⟨rfl, ⟨nd, rfl⟩⟩; refine ⟨_, rfl, ?_⟩))
    go_ret2
    exact ⟨by first | rfl | (simp [errW_none, errW_some] <;> rfl) | (simp [*, errW_none, errW_some] <;> rfl), by repeat (first | (with_reducible first | exact HB.out | apply below_alloc | apply pw_below_drewN | apply below_drew1) | exact HB.out)⟩

-- NOT PRINTED: function 70 (utf8_RuneCountInString)

-- NOT PRINTED: function 85 (utf8_decodeRuneInStringSlow)

-- NOT PRINTED: function 71 (utf8_DecodeRuneInString)

-- NOT PRINTED: function 61 (strings_explode)

-- NOT PRINTED: function 100 (bytealg_IndexByteString)

-- NOT PRINTED: function 86 (stringslite_IndexByte)

-- NOT PRINTED: function 87 (bytealg_IndexString)

-- NOT PRINTED: function 88 (bytealg_Cutover)

-- NOT PRINTED: function 101 (bytealg_hashStr_string)

-- NOT PRINTED: function 89 (bytealg_IndexRabinKarp_string)

-- NOT PRINTED: function 73 (stringslite_Index)

-- NOT PRINTED: function 63 (strings_Index)

-- NOT PRINTED: function 72 (bytealg_CountString)

-- NOT PRINTED: function 62 (strings_Count)

-- NOT PRINTED: function 50 (strings_genSplit)

/-! ### strings_Split: function 31 -/
/-- The library's bound holds some whole number, in this world. -/
structure LaidMax (w : World) : Prop where mk :: (cell : ∃ m, w.cell? ⟨0, 0, none⟩ = some (.int .i64 m))
theorem LaidMax.drew {w : World} (h : LaidMax w) (n : Nat) : LaidMax (w.drewN n) := ⟨h.cell⟩
theorem LaidMax.below {w w' : World} (h : LaidMax w) (hb : Below w.heap.size w w') : LaidMax w' := by
  obtain ⟨m, hm⟩ := h.cell
  refine ⟨m, ?_⟩
  rw [hb.cell]
  · exact hm
  · rcases Nat.lt_or_ge 0 w.heap.size with c | c
    · exact c
    · unfold World.cell? at hm
      rw [Array.getElem?_eq_none c] at hm
      cases hm
/-- The parts of a text between the separators. -/
def splitS (s sep : ByteArray) : List ByteArray := Go.Lib.splitB sep 0 (Go.Lib.countB s sep) s
def strings_Split.f (a0 : ByteArray) (a1 : ByteArray) : Option (List ByteArray) := if a0.size < 4294967281 ∧ 1 ≤ a1.size then some (splitS a0 a1) else none
theorem strings_Split.calls (a0 : ByteArray) (a1 : ByteArray) (r : List ByteArray) (w : World) (hLaidMax_ : LaidMax w) (h : strings_Split.f a0 a1 = some r) :
    Calls Tryz.prog 31 #[.string a0, .string a1] w fun e w' => ∃ v0_ : Value, e = .returned (v0_) ∧ Kd.R Kd.string 9 w' w.heap.size (fun _ => True) v0_ r ∧ Below w.heap.size w w' := by
  unfold strings_Split.f at h
  by_cases c : a0.size < 4294967281 ∧ 1 ≤ a1.size
  · rw [if_pos c] at h
    obtain rfl := Option.some.inj h
    obtain ⟨m, hm⟩ := hLaidMax_.cell
    have hl : (splitS a0 a1).length = Go.Lib.countB a0 a1 + 1 := Go.Lib.splitB_all a1 c.2 0 _ a0 rfl
    have hc := Go.Lib.countB_le a1 c.2 a0.size a0 (Nat.le_refl _)
    refine (Tryz.strings_Split a0 a1 m w c.1 hm c.2).mono ?_
    rintro e w' ⟨rfl, rfl⟩
    refine ⟨_, rfl, ?_, below_alloc (Below.refl _ _) _⟩
    rw [← hl]
    exact Kd.R_of_own (own_lit_of w w.heap.size 9 (splitS a0 a1) (Nat.le_refl _) (by omega)) (fun _ _ => trivial)
  · rw [if_neg c] at h
    exact absurd h (by simp)

-- NOT PRINTED: function 79 (strconv_small)

-- NOT PRINTED: function 95 (strconv_log10Pow2)

-- NOT PRINTED: function 96 (bits_Len64)

-- NOT PRINTED: function 97 (strconv_bool2_int)

-- NOT PRINTED: function 80 (strconv_numDigits)

-- NOT PRINTED: function 81 (strconv_formatBase10)

-- NOT PRINTED: function 98 (strconv_isPowerOfTwo)

-- NOT PRINTED: function 103 (bits_TrailingZeros32)

-- NOT PRINTED: function 104 (bits_TrailingZeros64)

-- NOT PRINTED: function 99 (bits_TrailingZeros)

-- NOT PRINTED: function 82 (strconv_formatBits)

-- NOT PRINTED: function 66 (strconv_FormatInt_66)

/-! ### strconv_FormatInt_52: function 52 -/
/-- The library's table of powers of ten reads as the row lists it, in this world. -/
structure LaidPow (w : World) : Prop where mk :: (tab : Lib.TabIs Tryz.prog w "internal/strconv.uint64pow10" .u64 Lib.pow10Tab)
theorem LaidPow.drew {w : World} (h : LaidPow w) (n : Nat) : LaidPow (w.drewN n) := ⟨h.tab⟩
theorem laid_var_below {n : String} {g : Nat} {cs : Array Value} {w w' : World} (hg : Tryz.prog.globalNamed n = some g) (h : w.var? Tryz.prog n = some cs) (hb : Below w.heap.size w w') : w'.var? Tryz.prog n = some cs := by
  refine var?_below hb hg ?_ h
  rcases Nat.lt_or_ge g w.heap.size with c | c
  · exact c
  · unfold World.var? at h
    rw [hg] at h
    simp only [Option.bind_some] at h
    rw [Array.getElem?_eq_none c] at h
    cases h
theorem LaidPow.below {w w' : World} (h : LaidPow w) (hb : Below w.heap.size w w') : LaidPow w' := ⟨laid_var_below (g := 3) (by kernel_rfl) h.tab hb⟩
/-- The decimal text of a number. -/
def strconv_FormatInt_52.f (a0 : Int) (a1 : Int) : Option (ByteArray) := if a1 = 10 then (if -9223372036854775808 ≤ a0 ∧ a0 ≤ 9223372036854775807 then some ⟨(Lib.itoa a0).toArray⟩ else none) else none
theorem strconv_FormatInt_52.calls (a0 : Int) (a1 : Int) (r : ByteArray) (w : World) (hLaidPow_ : LaidPow w) (h : strconv_FormatInt_52.f a0 a1 = some r) :
    Calls Tryz.prog 52 #[.int .i64 a0, .int .i64 a1] w fun e w' => e = .returned (.string r) ∧ Below w.heap.size w w' := by
  unfold strconv_FormatInt_52.f at h
  by_cases c : a1 = 10
  · subst c
    rw [if_pos rfl] at h
    by_cases c2 : -9223372036854775808 ≤ a0 ∧ a0 ≤ 9223372036854775807
    · rw [if_pos c2] at h
      obtain rfl := Option.some.inj h
      refine (Tryz.strconv_FormatInt_10 a0 c2.1 c2.2 w hLaidPow_.tab).mono ?_
      rintro e w' ⟨rfl, k, os, rfl⟩
      exact ⟨rfl, rfl, rfl, rfl, by simp [Go.Sort.grow, World.drewN], fun i hi => by simp [Go.Sort.grow, World.drewN, Array.getElem?_append_left hi]⟩
    · rw [if_neg c2] at h
      exact absurd h (by simp)
  · rw [if_neg c] at h
    exact absurd h (by simp)

/-! ### impl_dec: function 33 -/
def impl_dec.f (a0 : Int) : Option (ByteArray) := (strconv_FormatInt_52.f a0 10).bind fun t231 => (some t231)
set_option maxHeartbeats 8000000 in
set_option maxRecDepth 100000 in
theorem impl_dec.calls (a0 : Int) (r : ByteArray) (w : World) (hLaidPow_ : LaidPow w) (h : impl_dec.f a0 = some r) :
    Calls Tryz.prog 33 #[.int .i64 a0] w fun e w' => e = .returned (.string r) ∧ Below w.heap.size w w' := by
  have HLaidPow_ := Aside0.mk hLaidPow_
  clear hLaidPow_
  have HB := Aside0.mk (Below.refl w.heap.size w)
  have H : ((strconv_FormatInt_52.f a0 10).bind fun t231 => (some t231)) = some r := h
  clear h
  replace H := Option.bind_eq_some_iff.mp H
  obtain ⟨t231, A20, H⟩ := H
  replace H : (some t231) = some r := H
  have A2 := Aside0.mk A20
  clear A20
  obtain rfl := Option.some.inj H
  go_enter Tryz.func33, Tryz.ntmps33
  go_wp2_with (first | ((with_reducible refine gate_callee (f := 52) rfl ?_); refine goesL_ (some 4) rfl rfl Tryz.func52 (by kernel_rfl) rfl #[.int .i64 a0, .int .i64 10] rfl (by (try simp only [List.map_toArray, List.map_cons, List.map_nil]); first | done | rfl | (simp only [List.length_drop, List.length_take]; rfl)) ?_; (with_reducible refine (strconv_FormatInt_52.calls a0 10 t231 _ (by repeat (first | exact HLaidPow_.out | exact LaidPow.below HLaidPow_.out HB.out | exact LaidPow.below HLaidPow_.out (Drawn0.below ⟨⟨_, rfl⟩⟩) | apply LaidPow.drew)) A2.out).mono ?_); rintro e w3 ⟨rfl, hb⟩; refine ⟨_, rfl, ?_⟩; have n0_ := Aside0.mk (below_step (by repeat (first | (with_reducible first | exact HB.out | apply below_alloc | apply pw_below_drewN | apply below_drew1) | exact HB.out)) hb); clear HB; have HB := n0_; clear n0_; (try clear hb); (try clear hb2); (try clear hk); (try clear hi)))
  go_ret
  exact ⟨by first | rfl | (simp [errW_none, errW_some] <;> rfl) | (simp [*, errW_none, errW_some] <;> rfl), by repeat (first | (with_reducible first | exact HB.out | apply below_alloc | apply pw_below_drewN | apply below_drew1) | exact HB.out)⟩

-- NOT PRINTED: function 90 (strconv_lower)

-- NOT PRINTED: function 91 (strconv_underscoreOK)

-- NOT PRINTED: function 74 (strconv_ParseUint)

-- NOT PRINTED: function 64 (strconv_ParseInt_64)

-- NOT PRINTED: function 92 (stringslite_Clone)

-- NOT PRINTED: function 75 (strconv_syntaxError)

-- NOT PRINTED: function 76 (strconv_rangeError)

-- NOT PRINTED: function 93 (errors_New)

-- NOT PRINTED: function 102 (strconv_Itoa_102)

-- NOT PRINTED: function 94 (strconv_Itoa_94)

-- NOT PRINTED: function 77 (strconv_baseError)

-- NOT PRINTED: function 78 (strconv_bitSizeError)

-- NOT PRINTED: function 65 (strconv_toError)

-- NOT PRINTED: function 51 (strconv_ParseInt_51)

/-! ### impl_number: function 32 -/
/-- The two variables of the library's errors hold something that an interface may hold, in this world. -/
structure LaidErr (w : World) : Prop where mk :: (cells : (∃ ev, w.cell? ⟨1, 0, none⟩ = some ev ∧ (ev = .nilIface ∨ ∃ te pe, ev = .iface te pe)) ∧ ∃ ev, w.cell? ⟨2, 0, none⟩ = some ev ∧ (ev = .nilIface ∨ ∃ te pe, ev = .iface te pe))
theorem LaidErr.drew {w : World} (h : LaidErr w) (n : Nat) : LaidErr (w.drewN n) := ⟨h.cells⟩
theorem laid_cell_below {a : Addr} {v : Value} {w w' : World} (h : w.cell? a = some v) (hb : Below w.heap.size w w') : w'.cell? a = some v := by
  rw [hb.cell]
  · exact h
  · rcases Nat.lt_or_ge a.block w.heap.size with c | c
    · exact c
    · unfold World.cell? at h
      rw [Array.getElem?_eq_none c] at h
      cases h
theorem LaidErr.below {w w' : World} (h : LaidErr w) (hb : Below w.heap.size w w') : LaidErr w' := by
  obtain ⟨⟨e1, h1, k1⟩, e2, h2, k2⟩ := h.cells
  exact ⟨⟨⟨e1, laid_cell_below h1 hb, k1⟩, e2, laid_cell_below h2 hb, k2⟩⟩
/-- What number gives: the number of a decimal numeral within the bound, -1 for any other text. -/
def numR (l : List UInt8) (high : Int) : Int := match Go.Lib.parseIntB 64 l with
  | .ok v => if 0 ≤ v ∧ v ≤ high ∧ Go.Lib.itoa v = l then v else -1
  | _ => -1
def impl_number.f (a0 : ByteArray) (a1 : Int) : Option (Int) := if a0.size ≤ 281474976710656 then some (numR a0.data.toList a1) else none
theorem parse_ok (s : ByteArray) (hs : s.size ≤ 281474976710656) (v : Int) (h : Go.Lib.parseIntB 64 s.data.toList = .ok v) (w : World) :
    Calls Tryz.prog 51 #[.string s, .int .i64 10, .int .i64 64] w fun e w' => e = .returned (.tuple #[.int .i64 v, .nilIface]) ∧ Below w.heap.size w w' := by
  refine (Tryz.strconv_ParseInt_10_at64_ok s (by omega) v h w).mono ?_
  rintro e w' ⟨rfl, hw⟩
  refine ⟨rfl, ?_⟩
  rcases hw with rfl | ⟨t, rfl⟩
  · exact Below.refl _ _
  · exact Go.Lib.bytesWorld_below _ _ _
theorem parse_range (l : List UInt8) (v : Int) (h : Go.Lib.parseIntB 64 l = .ok v) : -9223372036854775808 ≤ v ∧ v ≤ 9223372036854775807 := by
  unfold Go.Lib.parseIntB at h
  cases l with
  | nil => exact absurd h (by simp)
  | cons c r =>
    simp only at h
    split at h
    · exact absurd h (by simp)
    · exact absurd h (by simp)
    · split at h
      · exact absurd h (by simp)
      · split at h
        · exact absurd h (by simp)
        · rename_i h1 h2
          simp only [Go.Lib.NumEnd.ok.injEq] at h
          subst h
          by_cases hn : c.toNat = 45
          · rw [if_pos hn]
            have : ¬ 2 ^ (64 - 1) < _ := fun hh => h2 ⟨hn, hh⟩
            omega
          · rw [if_neg hn]
            have : ¬ 2 ^ (64 - 1) ≤ _ := fun hh => h1 ⟨hn, hh⟩
            omega
theorem parse_bad (s : ByteArray) (hs : s.size ≤ 281474976710656) (h : ∀ v, Go.Lib.parseIntB 64 s.data.toList ≠ .ok v) (w : World) (hL : LaidErr w) :
    Calls Tryz.prog 51 #[.string s, .int .i64 10, .int .i64 64] w fun e w' => (∃ (v : Int) (t : Nat) (N : Nat), e = .returned (.tuple #[.int .i64 v, .iface t (.pointer (some ⟨N, 0, none⟩))])) ∧ Below w.heap.size w w' := by
  obtain ⟨⟨e1, h1, k1⟩, e2, h2, k2⟩ := hL.cells
  cases hp : Go.Lib.parseIntB 64 s.data.toList with
  | ok v => exact absurd hp (h v)
  | range =>
    refine (Tryz.strconv_ParseInt_10_at64_range s hs hp e2 w h2 k2).mono ?_
    rintro e w' ⟨N, rfl, _, _, hb⟩
    exact ⟨⟨_, _, N, rfl⟩, hb⟩
  | _ =>
    refine (Tryz.strconv_ParseInt_10_at64_syntax s hs hp e1 w h1 k1).mono ?_
    rintro e w' ⟨N, rfl, _, _, hb⟩
    exact ⟨⟨_, _, N, rfl⟩, hb⟩
set_option maxHeartbeats 4000000 in
set_option maxRecDepth 100000 in
theorem impl_number.calls (a0 : ByteArray) (a1 : Int) (r : Int) (w : World) (hLaidErr_ : LaidErr w) (hLaidPow_ : LaidPow w) (h : impl_number.f a0 a1 = some r) :
    Calls Tryz.prog 32 #[.string a0, .int .i64 a1] w fun e w' => e = .returned (.int .i64 r) ∧ Below w.heap.size w w' := by
  unfold impl_number.f at h
  by_cases c : a0.size ≤ 281474976710656
  · rw [if_pos c] at h
    have h := Option.some.inj h
    by_cases hok : ∃ v, Go.Lib.parseIntB 64 a0.data.toList = .ok v
    · obtain ⟨v, hv⟩ := hok
      have HP := Aside0.mk (parse_ok a0 c v hv w)
      have HL := Aside0.mk hLaidPow_
      have hn : numR a0.data.toList a1 = if 0 ≤ v ∧ v ≤ a1 ∧ Go.Lib.itoa v = a0.data.toList then v else -1 := by
        unfold numR
        rw [hv]
      rw [hn] at h
      have hrg := parse_range _ _ hv
      clear hn hv hLaidErr_ hLaidPow_
      by_cases cw : 0 ≤ v ∧ v ≤ a1
      · have HW := Aside0.mk (show impl_within.f v 0 a1 = some true by unfold impl_within.f; rw [if_pos cw.1, decide_eq_true cw.2])
        have HD := Aside0.mk (show impl_dec.f v = some ⟨(Go.Lib.itoa v).toArray⟩ by unfold impl_dec.f strconv_FormatInt_52.f; rw [if_pos rfl, if_pos hrg]; rfl)
        by_cases cs : Go.Lib.itoa v = a0.data.toList
        · rw [if_pos ⟨cw.1, cw.2, cs⟩] at h
          subst h
          have ce : Go.Lib.itoa v = a0.toList := by rw [Go.Lib.toList_data]; exact cs
          have c1 : (Go.Lib.itoa v == a0.toList) = true := beq_iff_eq.mpr ce
          have c2 : (Go.Lib.itoa v != a0.toList) = false := bne_eq_false_iff_eq.mpr ce
          clear ce cs cw hrg
          go_enter Tryz.func32, Tryz.ntmps32
          go_wp2_with (first | (go_at_call 51; refine (HP.out).mono ?_; rintro e w1 ⟨rfl, hb⟩; have HB := Aside0.mk hb; clear hb) | (go_at_call 38; refine (impl_within.calls _ _ _ _ _ HW.out).mono ?_; rintro e w2 ⟨rfl, ⟨m, rfl⟩⟩) | (go_at_call 33; refine (impl_dec.calls _ _ _ (LaidPow.drew (LaidPow.below HL.out HB.out) _) HD.out).mono ?_; rintro e w3 ⟨rfl, hb3⟩; have HB3 := Aside0.mk (below_step (pw_below_drewN HB.out m) hb3); clear hb3))
          go_ret
          exact ⟨rfl, HB3.out⟩
        · rw [if_neg (fun hh => cs hh.2.2)] at h
          subst h
          have ce : ¬ Go.Lib.itoa v = a0.toList := by rw [Go.Lib.toList_data]; exact cs
          have c1 : (Go.Lib.itoa v == a0.toList) = false := beq_eq_false_iff_ne.mpr ce
          have c2 : (Go.Lib.itoa v != a0.toList) = true := bne_iff_ne.mpr ce
          clear ce cs cw hrg
          go_enter Tryz.func32, Tryz.ntmps32
          go_wp2_with (first | (go_at_call 51; refine (HP.out).mono ?_; rintro e w1 ⟨rfl, hb⟩; have HB := Aside0.mk hb; clear hb) | (go_at_call 38; refine (impl_within.calls _ _ _ _ _ HW.out).mono ?_; rintro e w2 ⟨rfl, ⟨m, rfl⟩⟩) | (go_at_call 33; refine (impl_dec.calls _ _ _ (LaidPow.drew (LaidPow.below HL.out HB.out) _) HD.out).mono ?_; rintro e w3 ⟨rfl, hb3⟩; have HB3 := Aside0.mk (below_step (pw_below_drewN HB.out m) hb3); clear hb3))
          go_ret
          exact ⟨rfl, HB3.out⟩
      · rw [if_neg (fun hh => cw ⟨hh.1, hh.2.1⟩)] at h
        subst h
        have HW := Aside0.mk (show impl_within.f v 0 a1 = some false by
          unfold impl_within.f
          by_cases c0 : 0 ≤ v
          · rw [if_pos c0, decide_eq_false (fun hh => cw ⟨c0, hh⟩)]
          · rw [if_neg c0])
        clear cw hrg
        go_enter Tryz.func32, Tryz.ntmps32
        go_wp2_with (first | (go_at_call 51; refine (HP.out).mono ?_; rintro e w1 ⟨rfl, hb⟩; have HB := Aside0.mk hb; clear hb) | (go_at_call 38; refine (impl_within.calls _ _ _ _ _ HW.out).mono ?_; rintro e w2 ⟨rfl, ⟨m, rfl⟩⟩))
        go_ret
        exact ⟨rfl, pw_below_drewN HB.out m⟩
    · have hbad : ∀ v, Go.Lib.parseIntB 64 a0.data.toList ≠ .ok v := fun v hv => hok ⟨v, hv⟩
      have hr : r = -1 := by
        rw [← h]
        unfold numR
        split
        · rename_i v hv
          exact absurd hv (hbad v)
        · rfl
      subst hr
      have HP := Aside0.mk (parse_bad a0 c hbad w hLaidErr_)
      clear h hLaidErr_ hLaidPow_ hok hbad
      go_enter Tryz.func32, Tryz.ntmps32
      go_wp2_with (go_at_call 51; refine (HP.out).mono ?_; rintro e w' ⟨⟨v, t, N, rfl⟩, hb⟩)
      go_ret
      exact ⟨rfl, hb⟩
  · rw [if_neg c] at h
    exact absurd h (by simp)

/-! ### impl_ReadGame: function 10 -/
mutual
def impl_ReadGame.l0 : Nat → List (List Int) → List ByteArray → Int → Int → Option ((List (List Int)) × Int)
  | 0, _, _, _, _ => none
  | k + 1, x4, x13, x14, x15 => if x15 < x14 then (if 0 ≤ x15 then (if x15 < (x13.length : Int) then ((some (([] : List Int) : List Int)).bind fun y240 => (if (rdOf ByteArray.empty x13 x15).toList = ([45] : List UInt8) then (if x4.length < 5864062014805 then (impl_ReadGame.l0 k (x4 ++ [y240]) x13 x14 (wrap64 (x15 + 1))) else (none)) else ((strings_Split.f (rdOf ByteArray.empty x13 x15) (⟨#[44]⟩ : ByteArray)).bind fun t246 => (impl_ReadGame.l1 k x4 y240 x13 x14 x15 t246 (t246.length : Int) 0)))) else (none)) else (none)) else ((impl_ValidGame.f k x4).bind fun t238 => (if t238 = true then (some (x4, 0)) else (some (([] : List (List Int)), 5))))
def impl_ReadGame.l1 : Nat → List (List Int) → List Int → List ByteArray → Int → Int → List ByteArray → Int → Int → Option ((List (List Int)) × Int)
  | 0, _, _, _, _, _, _, _, _ => none
  | k + 1, x4, x7, x13, x14, x15, x23, x24, x25 => if x25 < x24 then (if 0 ≤ x25 then (if x25 < (x23.length : Int) then ((impl_number.f (rdOf ByteArray.empty x23 x25) 60).bind fun t250 => (if t250 < 0 then (some (([] : List (List Int)), 5)) else (if x7.length < 140737488355328 then (impl_ReadGame.l1 k x4 (x7 ++ [IntKind.i8.wrap (t250)]) x13 x14 x15 x23 x24 (wrap64 (x25 + 1))) else (none)))) else (none)) else (none)) else (if x4.length < 5864062014805 then (impl_ReadGame.l0 k (x4 ++ [x7]) x13 x14 (wrap64 (x15 + 1))) else (none))
end
def impl_ReadGame.f (k : Nat) (a0 : ByteArray) : Option ((List (List Int)) × Int) := (strings_Split.f a0 (⟨#[32]⟩ : ByteArray)).bind fun t235 => (impl_ReadGame.l0 k (([] : List (List Int))) t235 (t235.length : Int) 0)
theorem impl_ReadGame.mono_l : ∀ k, (∀ y0 y1 y2 y3, LeO (impl_ReadGame.l0 k y0 y1 y2 y3) (impl_ReadGame.l0 (k + 1) y0 y1 y2 y3)) ∧ (∀ y0 y1 y2 y3 y4 y5 y6 y7, LeO (impl_ReadGame.l1 k y0 y1 y2 y3 y4 y5 y6 y7) (impl_ReadGame.l1 (k + 1) y0 y1 y2 y3 y4 y5 y6 y7))
  | 0 => ⟨fun _ _ _ _ r h => by simp [impl_ReadGame.l0] at h, fun _ _ _ _ _ _ _ _ r h => by simp [impl_ReadGame.l1] at h⟩
  | k + 1 => by
    obtain ⟨ih0, ih1⟩ := impl_ReadGame.mono_l k
    refine ⟨?_, ?_⟩
    · intro y0 y1 y2 y3
      unfold impl_ReadGame.l0
      repeat' first
      | (with_reducible exact ih0 _ _ _ _)
      | (with_reducible exact ih1 _ _ _ _ _ _ _ _)
      | (with_reducible exact impl_ValidGame.mono _ _)
      | (with_reducible exact LeO.refl _)
      | (with_reducible exact LeO.none _)
      | (with_reducible refine LeO.ite ?_ ?_)
      | (with_reducible refine LeO.bind ?_ (fun _ => ?_))
      | exact ih0 _ _ _ _
      | exact ih1 _ _ _ _ _ _ _ _
      | exact impl_ValidGame.mono _ _
      | exact LeO.none _
      | refine LeO.ite ?_ ?_
      | refine LeO.bind ?_ (fun _ => ?_)
    · intro y0 y1 y2 y3 y4 y5 y6 y7
      unfold impl_ReadGame.l1
      repeat' first
      | (with_reducible exact ih0 _ _ _ _)
      | (with_reducible exact ih1 _ _ _ _ _ _ _ _)
      | (with_reducible exact impl_ValidGame.mono _ _)
      | (with_reducible exact LeO.refl _)
      | (with_reducible exact LeO.none _)
      | (with_reducible refine LeO.ite ?_ ?_)
      | (with_reducible refine LeO.bind ?_ (fun _ => ?_))
      | exact ih0 _ _ _ _
      | exact ih1 _ _ _ _ _ _ _ _
      | exact impl_ValidGame.mono _ _
      | exact LeO.none _
      | refine LeO.ite ?_ ?_
      | refine LeO.bind ?_ (fun _ => ?_)
theorem impl_ReadGame.mono : ∀ a0 k, LeO (impl_ReadGame.f k a0) (impl_ReadGame.f (k + 1) a0) := by
  intro a0 k
  obtain ⟨ih0, ih1⟩ := impl_ReadGame.mono_l k
  unfold impl_ReadGame.f
  repeat' first
      | (with_reducible exact ih0 _ _ _ _)
      | (with_reducible exact ih1 _ _ _ _ _ _ _ _)
      | (with_reducible exact impl_ValidGame.mono _ _)
      | (with_reducible exact LeO.refl _)
      | (with_reducible exact LeO.none _)
      | (with_reducible refine LeO.ite ?_ ?_)
      | (with_reducible refine LeO.bind ?_ (fun _ => ?_))
      | exact ih0 _ _ _ _
      | exact ih1 _ _ _ _ _ _ _ _
      | exact impl_ValidGame.mono _ _
      | exact LeO.none _
      | refine LeO.ite ?_ ?_
      | refine LeO.bind ?_ (fun _ => ?_)
set_option maxHeartbeats 8000000 in
set_option maxRecDepth 100000 in
theorem impl_ReadGame.calls (k : Nat) (a0 : ByteArray) (r1 : List (List Int)) (r2 : Int) (w : World) (hLaidErr_ : LaidErr w) (hLaidMax_ : LaidMax w) (hLaidPow_ : LaidPow w) (h : impl_ReadGame.f k a0 = some (r1, r2)) :
    Calls Tryz.prog 10 #[.string a0] w fun e w' => ∃ v0_ : Value, e = .returned (.tuple #[v0_, .int .i64 r2]) ∧ Kd.S (Kd.slice 66 (Kd.int .i8)) 55 w' w.heap.size (fun _ => True) v0_ r1 ∧ Below w.heap.size w w' := by
  have HLaidErr_ := Aside0.mk hLaidErr_
  clear hLaidErr_
  have HLaidMax_ := Aside0.mk hLaidMax_
  clear hLaidMax_
  have HLaidPow_ := Aside0.mk hLaidPow_
  clear hLaidPow_
  have HB := Aside0.mk (Below.refl w.heap.size w)
  have H : ((strings_Split.f a0 (⟨#[32]⟩ : ByteArray)).bind fun t235 => (impl_ReadGame.l0 k (([] : List (List Int))) t235 (t235.length : Int) 0)) = some (r1, r2) := h
  clear h
  obtain ⟨y232, hy232⟩ : ∃ y_ : List (List Int), y_ = (([] : List (List Int))) := ⟨_, rfl⟩
  replace H : ((strings_Split.f a0 (⟨#[32]⟩ : ByteArray)).bind fun t235 => (impl_ReadGame.l0 k y232 t235 (t235.length : Int) 0)) = some (r1, r2) := by first | (rw [hy232]; with_reducible exact H) | (have H2_ := (Option.bind_some _ _).symm.trans H; rw [hy232]; with_reducible exact H2_) | (have H2_ := (Option.bind_some _ _).symm.trans H; with_reducible exact H2_) | with_reducible exact H | (rw [hy232]; exact H) | exact H
  have Ny232 := Aside0.mk hy232
  clear hy232
  replace H := Option.bind_eq_some_iff.mp H
  obtain ⟨t235, A20, H⟩ := H
  replace H : (impl_ReadGame.l0 k y232 t235 (t235.length : Int) 0) = some (r1, r2) := H
  have A2 := Aside0.mk A20
  clear A20
  have H' := Aside0.mk H
  clear H
  go_enter Tryz.func10, Tryz.ntmps10
  go_wp2_with (first | ((with_reducible refine gate_dst (N := 11) rfl ?_); refine Kd.S_lit (Kd.slice 66 (Kd.int .i8)) _ 55 ?hg (N := 11) ?hd (xs := ([] : List (List Int))) (inner := []) (ok := fun _ => True) (okp := fun _ => True) ?hr ?hp (fun _ hk => hk) trivial (Below.refl _ _) (Nat.le_refl _) (by simp) ?_; (case hd => rfl); (case hg => rfl); (case hr => first | (go_simp; done) | (go_simp; rfl)); (case hp => exact (Reps.none _ _)); intro v233 w3 ho4 hb hg_ hnew_; clear hg_ hnew_; (first | rw [← Ny232.out] at ho4 | (simp only [Int.reduceToNat] at ho4; rw [← Ny232.out] at ho4)); have n0_ := Aside0.mk (Kd.S_lower ho4 (below_size (by repeat (first | (with_reducible first | exact HB.out | apply below_alloc | apply pw_below_drewN | apply below_drew1) | exact HB.out)))); have n1_ := Aside0.mk (below_step (by repeat (first | (with_reducible first | exact HB.out | apply below_alloc | apply pw_below_drewN | apply below_drew1) | exact HB.out)) hb); clear HB; have HO234 := n0_; have HB := n1_; clear n0_ n1_; clear hb ho4) | ((with_reducible refine gate_callee (f := 31) rfl ?_); refine goesL_ (some 13) rfl rfl Tryz.func31 (by kernel_rfl) rfl #[.string a0, .string (⟨#[32]⟩ : ByteArray)] rfl (by (try simp only [List.map_toArray, List.map_cons, List.map_nil]); first | done | rfl | (simp only [List.length_drop, List.length_take]; rfl)) ?_; (with_reducible refine (strings_Split.calls a0 (⟨#[32]⟩ : ByteArray) t235 _ (by repeat (first | exact HLaidMax_.out | exact LaidMax.below HLaidMax_.out HB.out | exact LaidMax.below HLaidMax_.out (Drawn0.below ⟨⟨_, rfl⟩⟩) | apply LaidMax.drew)) A2.out).mono ?_); rintro e w5 ⟨v236, rfl, ho0, hb⟩; refine ⟨_, rfl, ?_⟩; have n0_ := Aside0.mk (Kd.S_below (by (with_reducible repeat (first | apply Kd.S_alloc | apply Kd.S_drewN | apply Kd.S_drew)); exact HO234.out) hb); have n1_ := Aside0.mk (Kd.R_lower ho0 (below_size (by repeat (first | (with_reducible first | exact HB.out | apply below_alloc | apply pw_below_drewN | apply below_drew1) | exact HB.out)))); have n2_ := Aside0.mk (below_step (by repeat (first | (with_reducible first | exact HB.out | apply below_alloc | apply pw_below_drewN | apply below_drew1) | exact HB.out)) hb); clear HO234; clear HB; have HO234 := n0_; have HO237 := n1_; have HB := n2_; clear n0_ n1_ n2_; (try clear hb); (try clear hb2); (try clear hk); (try clear hi); (try clear ho0); obtain ⟨Ao6, co6, eo6⟩ := Kd.R_slice HO237.out; subst eo6))
  go_loopg [4, 15] k (fun kq v4 v15 w' => ∃ (x4_1 : List (List Int)) (x15_1 : Int), v15 = .int .i64 x15_1 ∧ Aside0 (impl_ReadGame.l0 kq x4_1 t235 (t235.length : Int) x15_1 = some (r1, r2)) ∧ Aside0 (kq ≤ k) ∧ Aside0 (Kd.S (Kd.slice 66 (Kd.int .i8)) 55 w' w.heap.size (fun _ => True) v4 x4_1) ∧ Aside0 (Kd.R Kd.string 9 w' w.heap.size (fun _ => True) (.slice Ao6 t235.length co6) t235) ∧ Aside0 (Below w.heap.size w w'))
  case atStart => exact ⟨(y232), (0), (by first | rfl | (simp; done) | (simp [*]; done)), H', ⟨Nat.le_refl _⟩, ⟨by (with_reducible repeat (first | apply Kd.S_alloc | apply Kd.S_drewN | apply Kd.S_drew)); exact HO234.out⟩, ⟨by (with_reducible repeat (first | apply Kd.R_alloc | apply Kd.R_drewN | apply Kd.R_drew)); exact HO237.out⟩, ⟨by repeat (first | (with_reducible first | exact HB.out | apply below_alloc | apply pw_below_drewN | apply below_drew1) | exact HB.out)⟩⟩
  case round =>
    clear H'
    try clear c1
    try clear p2
    try clear c3
    obtain ⟨x4_1, x15_1, rfl, HA, HK1, HO_4, HO_13, HB⟩ := hrel
    cases gk with
    | zero => exact absurd HA.out (by simp [impl_ReadGame.l0])
    | succ k1 =>
      have H := HA.out
      clear HA
      simp only [impl_ReadGame.l0] at H
      by_cases c7 : x15_1 < (t235.length : Int)
      · rw [if_pos c7] at H
        have c7b0 : decide (x15_1 < (t235.length : Int)) = true := decide_eq_true c7
        clear c7
        by_cases c8 : 0 ≤ x15_1
        · rw [if_pos c8] at H
          have c8b0 : decide (0 ≤ x15_1) = true := decide_eq_true c8
          clear c8
          by_cases c9 : x15_1 < (t235.length : Int)
          · rw [if_pos c9] at H
            have c9b0 : decide (x15_1 < (t235.length : Int)) = true := decide_eq_true c9
            clear c9
            obtain ⟨y240, hy240⟩ : ∃ y_ : List Int, y_ = (([] : List Int)) := ⟨_, rfl⟩
            replace H : (if (rdOf ByteArray.empty t235 x15_1).toList = ([45] : List UInt8) then (if x4_1.length < 5864062014805 then (impl_ReadGame.l0 k1 (x4_1 ++ [y240]) t235 (t235.length : Int) (wrap64 (x15_1 + 1))) else (none)) else ((strings_Split.f (rdOf ByteArray.empty t235 x15_1) (⟨#[44]⟩ : ByteArray)).bind fun t246 => (impl_ReadGame.l1 k1 x4_1 y240 t235 (t235.length : Int) x15_1 t246 (t246.length : Int) 0))) = some (r1, r2) := by first | (rw [hy240]; with_reducible exact H) | (have H2_ := (Option.bind_some _ _).symm.trans H; rw [hy240]; with_reducible exact H2_) | (have H2_ := (Option.bind_some _ _).symm.trans H; with_reducible exact H2_) | with_reducible exact H | (rw [hy240]; exact H) | exact H
            have Ny240 := Aside0.mk hy240
            clear hy240
            by_cases c10 : (rdOf ByteArray.empty t235 x15_1).toList = ([45] : List UInt8)
            · rw [if_pos c10] at H
              have c10b0 : ((rdOf ByteArray.empty t235 x15_1).toList == ([45] : List UInt8)) = true := beq_iff_eq.mpr c10
              have c10b1 : ((rdOf ByteArray.empty t235 x15_1).toList != ([45] : List UInt8)) = false := bne_eq_false_iff_eq.mpr c10
              clear c10
              by_cases c11 : x4_1.length < 5864062014805
              · rw [if_pos c11] at H
                have LMc11 := Aside0.mk c11
                clear c11
                obtain ⟨y243, hy243⟩ : ∃ y_ : List (List Int), y_ = (x4_1 ++ [y240]) := ⟨_, rfl⟩
                replace H : (impl_ReadGame.l0 k1 y243 t235 (t235.length : Int) (wrap64 (x15_1 + 1))) = some (r1, r2) := by first | (rw [hy243]; with_reducible exact H) | (have H2_ := (Option.bind_some _ _).symm.trans H; rw [hy243]; with_reducible exact H2_) | (have H2_ := (Option.bind_some _ _).symm.trans H; with_reducible exact H2_) | with_reducible exact H | (rw [hy243]; exact H) | exact H
                have Ny243 := Aside0.mk hy243
                clear hy243
                have H' := Aside0.mk H
                clear H
                have p239 : 0 ≤ (x15_1 : Int) := of_decide_eq_true (by first | (with_reducible assumption) | assumption)
                have q239 : x15_1 < (t235.length : Int) := of_decide_eq_true (by first | (with_reducible assumption) | assumption)
                obtain ⟨ad239, e239, hx239_0⟩ := Kd.at_string (Kd.R_reads' HO_13.out).2.2 x15_1 p239 q239
                cases e239
                replace p239 := eq_true p239
                replace q239 := eq_true q239
                go_wp2_with (first | ((with_reducible refine gate_dst (N := 19) rfl ?_); refine Kd.R_lit (Kd.int .i8) _ 66 ?hg (N := 19) ?hd (xs := ([] : List Int)) (inner := []) (ok := fun _ => True) (okp := fun _ => True) ?hr ?hp (fun _ hk => hk) trivial (Below.refl _ _) (Nat.le_refl _) (by simp) ?_; (case hd => rfl); (case hg => rfl); (case hr => first | (go_simp; done) | (go_simp; rfl)); (case hp => exact (Reps.none _ _)); intro v241 w12 ho13 hb hg_ hnew_; clear hg_ hnew_; (first | rw [← Ny240.out] at ho13 | (simp only [Int.reduceToNat] at ho13; rw [← Ny240.out] at ho13)); have n0_ := Aside0.mk (Kd.S_elder' (by (with_reducible repeat (first | apply Kd.S_alloc | apply Kd.S_drewN | apply Kd.S_drew)); exact HO_4.out) (Kd.R_base ho13) hb); have n1_ := Aside0.mk (Kd.R_below (by (with_reducible repeat (first | apply Kd.R_alloc | apply Kd.R_drewN | apply Kd.R_drew)); exact HO_13.out) hb); have n2_ := Aside0.mk (Kd.R_lower ho13 (below_size (by repeat (first | (with_reducible first | exact HB.out | apply below_alloc | apply pw_below_drewN | apply below_drew1) | exact HB.out)))); have n3_ := Aside0.mk (below_step (by repeat (first | (with_reducible first | exact HB.out | apply below_alloc | apply pw_below_drewN | apply below_drew1) | exact HB.out)) hb); clear HO_4; clear HO_13; clear HB; have HO_4 := n0_; have HO_13 := n1_; have HO242 := n2_; have HB := n3_; clear n0_ n1_ n2_ n3_; clear hb ho13; obtain ⟨Ao15, co15, eo15⟩ := Kd.R_slice HO242.out; subst eo15) | ((with_reducible refine gate_builtin (b := .append) (xs := #[.tmp 39, .tmp 41]) rfl ?_); at_builtin; refine Kd.S_append (Kd.slice 66 (Kd.int .i8)) (w0 := w) w.heap.size rfl (.tmp 39) (.tmp 41) 25 55 (.slice none 0 0) 24 rfl Tryz.underlying25 info55 rfl (by decide) (by omega) u4 x4_1 y240 [.slice Ao15 y240.length co15] (fun _ => True) (fun k_ => some k_ = (.slice Ao15 y240.length co15 : Value).ownBlock) rfl rfl ?aP (fun k_ hk_ => ((Kd.R_mono (ok' := fun k_ => ((fun _ => True)) k_ ∧ some k_ ≠ (u4 : Value).ownBlock) (Kd.R_apart' (HO242.out) (Kd.S_typed HO_4.out) (by decide)) (fun k_ hk => ⟨trivial, hk.2⟩))).1 k_ hk_.symm) ?aF ?aO ?aB ?aS ?aL ?_; (case aP => exact Kd.M_row (Kd.R_mono (Kd.R_tight rfl (Kd.R_mono (ok' := fun k_ => ((fun _ => True)) k_ ∧ some k_ ≠ (u4 : Value).ownBlock) (Kd.R_apart' (HO242.out) (Kd.S_typed HO_4.out) (by decide)) (fun k_ hk => ⟨trivial, hk.2⟩))) (fun _ h_ => h_))); (case aB => exact (by repeat (first | (with_reducible first | exact HB.out | apply below_alloc | apply pw_below_drewN | apply below_drew1) | exact HB.out))); (case aF => exact (fun _ _ => trivial)); (case aO => exact (by (with_reducible repeat (first | apply Kd.S_alloc | apply Kd.S_drewN | apply Kd.S_drew)); exact Kd.S_mono HO_4.out (fun k_ hk => ⟨trivial, fun e_ => hk.2 e_⟩))); (case aS => exact (below_size (by repeat (first | (with_reducible first | exact HB.out | apply below_alloc | apply pw_below_drewN | apply below_drew1) | exact HB.out)))); (case aL => have := LMc11.out; omega); intro v244 w14 ho hb hg hat; rw [← Ny243.out] at ho; have n0_ := Aside0.mk (Kd.R_over' (by (with_reducible repeat (first | apply Kd.R_alloc | apply Kd.R_drewN | apply Kd.R_drew)); exact HO_13.out) (Kd.S_typed (by (with_reducible repeat (first | apply Kd.S_alloc | apply Kd.S_drewN | apply Kd.S_drew)); exact HO_4.out)) (by decide) hg); have n1_ := Aside0.mk (hb); have n2_ := Aside0.mk (ho); clear HO_13; clear HB; clear HO_4; clear HO242; have HO_13 := n0_; have HB := n1_; have HO245 := n2_; clear n0_ n1_ n2_; clear ho hb hg hat))
                go_roundg k1
                case measure => have := HK1.out; omega
                case rel => exact ⟨(y243), (wrap64 (x15_1 + 1)), (by first | rfl | (simp; done) | (simp [*]; done)), H', ⟨by have := HK1.out; omega⟩, ⟨by (with_reducible repeat (first | apply Kd.S_alloc | apply Kd.S_drewN | apply Kd.S_drew)); exact HO245.out⟩, ⟨by (with_reducible repeat (first | apply Kd.R_alloc | apply Kd.R_drewN | apply Kd.R_drew)); exact HO_13.out⟩, ⟨by repeat (first | (with_reducible first | exact HB.out | apply below_alloc | apply pw_below_drewN | apply below_drew1) | exact HB.out)⟩⟩
              · rw [if_neg c11] at H
                exact absurd H (by simp)
            · rw [if_neg c10] at H
              have c10b0 : ((rdOf ByteArray.empty t235 x15_1).toList == ([45] : List UInt8)) = false := beq_eq_false_iff_ne.mpr c10
              have c10b1 : ((rdOf ByteArray.empty t235 x15_1).toList != ([45] : List UInt8)) = true := bne_iff_ne.mpr c10
              replace H := Option.bind_eq_some_iff.mp H
              obtain ⟨t246, A160, H⟩ := H
              replace H : (impl_ReadGame.l1 k1 x4_1 y240 t235 (t235.length : Int) x15_1 t246 (t246.length : Int) 0) = some (r1, r2) := H
              have A16 := Aside0.mk A160
              clear A160
              have H' := Aside0.mk H
              clear H
              have p239 : 0 ≤ (x15_1 : Int) := of_decide_eq_true (by first | (with_reducible assumption) | assumption)
              have q239 : x15_1 < (t235.length : Int) := of_decide_eq_true (by first | (with_reducible assumption) | assumption)
              obtain ⟨ad239, e239, hx239_0⟩ := Kd.at_string (Kd.R_reads' HO_13.out).2.2 x15_1 p239 q239
              cases e239
              replace p239 := eq_true p239
              replace q239 := eq_true q239
              go_wp2_with (first | ((with_reducible refine gate_dst (N := 19) rfl ?_); refine Kd.R_lit (Kd.int .i8) _ 66 ?hg (N := 19) ?hd (xs := ([] : List Int)) (inner := []) (ok := fun _ => True) (okp := fun _ => True) ?hr ?hp (fun _ hk => hk) trivial (Below.refl _ _) (Nat.le_refl _) (by simp) ?_; (case hd => rfl); (case hg => rfl); (case hr => first | (go_simp; done) | (go_simp; rfl)); (case hp => exact (Reps.none _ _)); intro v241 w17 ho18 hb hg_ hnew_; clear hg_ hnew_; (first | rw [← Ny240.out] at ho18 | (simp only [Int.reduceToNat] at ho18; rw [← Ny240.out] at ho18)); have n0_ := Aside0.mk (Kd.S_elder' (by (with_reducible repeat (first | apply Kd.S_alloc | apply Kd.S_drewN | apply Kd.S_drew)); exact HO_4.out) (Kd.R_base ho18) hb); have n1_ := Aside0.mk (Kd.R_below (by (with_reducible repeat (first | apply Kd.R_alloc | apply Kd.R_drewN | apply Kd.R_drew)); exact HO_13.out) hb); have n2_ := Aside0.mk (Kd.R_lower ho18 (below_size (by repeat (first | (with_reducible first | exact HB.out | apply below_alloc | apply pw_below_drewN | apply below_drew1) | exact HB.out)))); have n3_ := Aside0.mk (below_step (by repeat (first | (with_reducible first | exact HB.out | apply below_alloc | apply pw_below_drewN | apply below_drew1) | exact HB.out)) hb); clear HO_4; clear HO_13; clear HB; have HO_4 := n0_; have HO_13 := n1_; have HO242 := n2_; have HB := n3_; clear n0_ n1_ n2_ n3_; clear hb ho18) | ((with_reducible refine gate_callee (f := 31) rfl ?_); refine goesL_ (some 23) rfl rfl Tryz.func31 (by kernel_rfl) rfl #[.string (rdOf ByteArray.empty t235 x15_1), .string (⟨#[44]⟩ : ByteArray)] rfl (by (try simp only [List.map_toArray, List.map_cons, List.map_nil]); first | done | rfl | (simp only [List.length_drop, List.length_take]; rfl)) ?_; (with_reducible refine (strings_Split.calls (rdOf ByteArray.empty t235 x15_1) (⟨#[44]⟩ : ByteArray) t246 _ (by repeat (first | exact HLaidMax_.out | exact LaidMax.below HLaidMax_.out HB.out | exact LaidMax.below HLaidMax_.out (Drawn0.below ⟨⟨_, rfl⟩⟩) | apply LaidMax.drew)) A16.out).mono ?_); rintro e w19 ⟨v247, rfl, ho0, hb⟩; refine ⟨_, rfl, ?_⟩; have n0_ := Aside0.mk (Kd.S_below (by (with_reducible repeat (first | apply Kd.S_alloc | apply Kd.S_drewN | apply Kd.S_drew)); exact HO_4.out) hb); have n1_ := Aside0.mk (Kd.R_elder' (by (with_reducible repeat (first | apply Kd.R_alloc | apply Kd.R_drewN | apply Kd.R_drew)); exact HO_13.out) (Kd.R_base ho0) hb); have n2_ := Aside0.mk (Kd.R_below (by (with_reducible repeat (first | apply Kd.R_alloc | apply Kd.R_drewN | apply Kd.R_drew)); exact HO242.out) hb); have n3_ := Aside0.mk (Kd.R_lower (Kd.R_new' ho0 (Kd.R_lt (by (with_reducible repeat (first | apply Kd.R_alloc | apply Kd.R_drewN | apply Kd.R_drew)); exact HO_13.out))) (below_size (by repeat (first | (with_reducible first | exact HB.out | apply below_alloc | apply pw_below_drewN | apply below_drew1) | exact HB.out)))); have n4_ := Aside0.mk (below_step (by repeat (first | (with_reducible first | exact HB.out | apply below_alloc | apply pw_below_drewN | apply below_drew1) | exact HB.out)) hb); clear HO_4; clear HO_13; clear HO242; clear HB; have HO_4 := n0_; have HO_13 := n1_; have HO242 := n2_; have HO248 := n3_; have HB := n4_; clear n0_ n1_ n2_ n3_ n4_; (try clear hb); (try clear hb2); (try clear hk); (try clear hi); (try clear ho0); obtain ⟨Ao20, co20, eo20⟩ := Kd.R_slice HO248.out; subst eo20))
              go_loopg [7, 25] k1 (fun kq v7 v25 w' => ∃ (x7_2 : List Int) (x25_2 : Int), v25 = .int .i64 x25_2 ∧ Aside0 (impl_ReadGame.l1 kq x4_1 x7_2 t235 (t235.length : Int) x15_1 t246 (t246.length : Int) x25_2 = some (r1, r2)) ∧ Aside0 (kq ≤ k1) ∧ Aside0 (Kd.S (Kd.slice 66 (Kd.int .i8)) 55 w' w.heap.size (fun k_ => some k_ ≠ (v7 : Value).ownBlock) u4 x4_1) ∧ Aside0 (Kd.R (Kd.int .i8) 66 w' w.heap.size (fun _ => True) v7 x7_2) ∧ Aside0 (Kd.R Kd.string 9 w' w.heap.size (fun k_ => some k_ ≠ ((.slice Ao20 t246.length co20) : Value).ownBlock) (.slice (some ad239) t235.length co6) t235) ∧ Aside0 (Kd.R Kd.string 9 w' w.heap.size (fun k_ => some k_ ≠ ((.slice (some ad239) t235.length co6) : Value).ownBlock) (.slice Ao20 t246.length co20) t246) ∧ Aside0 (Below w.heap.size w w'))
              case atStart => exact ⟨(y240), (0), (by first | rfl | (simp; done) | (simp [*]; done)), H', ⟨Nat.le_refl _⟩, ⟨by (with_reducible repeat (first | apply Kd.S_alloc | apply Kd.S_drewN | apply Kd.S_drew)); exact Kd.S_mono HO_4.out (fun _ hk => hk.2)⟩, ⟨by (with_reducible repeat (first | apply Kd.R_alloc | apply Kd.R_drewN | apply Kd.R_drew)); exact HO242.out⟩, ⟨by (with_reducible repeat (first | apply Kd.R_alloc | apply Kd.R_drewN | apply Kd.R_drew)); exact Kd.R_mono HO_13.out (fun _ hk => hk.2)⟩, ⟨by (with_reducible repeat (first | apply Kd.R_alloc | apply Kd.R_drewN | apply Kd.R_drew)); exact Kd.R_mono HO248.out (fun _ hk => hk.2)⟩, ⟨by repeat (first | (with_reducible first | exact HB.out | apply below_alloc | apply pw_below_drewN | apply below_drew1) | exact HB.out)⟩⟩
              case round =>
                clear H'
                try clear c1
                try clear p2
                try clear q2
                try clear hx2
                try clear c3
                try clear p6
                try clear c7
                try clear c7b0
                try clear c8
                try clear c8b0
                try clear c9
                try clear c9b0
                try clear c10
                try clear c10b0
                try clear c10b1
                try clear c11
                try clear hx239_0
                try clear p2
                try clear p239
                try clear q239
                obtain ⟨x7_2, x25_2, rfl, HA, HK2, HO_4, HO_7, HO_13, HO_23, HB⟩ := hrel
                cases gk with
                | zero => exact absurd HA.out (by simp [impl_ReadGame.l1])
                | succ k2 =>
                  have H := HA.out
                  clear HA
                  simp only [impl_ReadGame.l1] at H
                  by_cases c21 : x25_2 < (t246.length : Int)
                  · rw [if_pos c21] at H
                    have c21b0 : decide (x25_2 < (t246.length : Int)) = true := decide_eq_true c21
                    clear c21
                    by_cases c22 : 0 ≤ x25_2
                    · rw [if_pos c22] at H
                      have c22b0 : decide (0 ≤ x25_2) = true := decide_eq_true c22
                      clear c22
                      by_cases c23 : x25_2 < (t246.length : Int)
                      · rw [if_pos c23] at H
                        have c23b0 : decide (x25_2 < (t246.length : Int)) = true := decide_eq_true c23
                        clear c23
                        replace H := Option.bind_eq_some_iff.mp H
                        obtain ⟨t250, A240, H⟩ := H
                        replace H : (if t250 < 0 then (some (([] : List (List Int)), 5)) else (if x7_2.length < 140737488355328 then (impl_ReadGame.l1 k2 x4_1 (x7_2 ++ [IntKind.i8.wrap (t250)]) t235 (t235.length : Int) x15_1 t246 (t246.length : Int) (wrap64 (x25_2 + 1))) else (none))) = some (r1, r2) := H
                        have A24 := Aside0.mk A240
                        clear A240
                        by_cases c25 : t250 < 0
                        · rw [if_pos c25] at H
                          have c25b0 : decide (t250 < 0) = true := decide_eq_true c25
                          clear c25
                          simp only [Option.some.injEq, Prod.mk.injEq] at H
                          obtain ⟨rfl, rfl⟩ := H
                          have p249 : 0 ≤ (x25_2 : Int) := of_decide_eq_true (by first | (with_reducible assumption) | assumption)
                          have q249 : x25_2 < (t246.length : Int) := of_decide_eq_true (by first | (with_reducible assumption) | assumption)
                          obtain ⟨ad249, e249, hx249_0⟩ := Kd.at_string (Kd.R_reads' HO_23.out).2.2 x25_2 p249 q249
                          cases e249
                          replace p249 := eq_true p249
                          replace q249 := eq_true q249
                          go_wp2_with (first | ((with_reducible refine gate_callee (f := 32) rfl ?_); refine goesL_ (some 30) rfl rfl Tryz.func32 (by kernel_rfl) rfl #[.string (rdOf ByteArray.empty t246 x25_2), .int .i64 60] rfl (by (try simp only [List.map_toArray, List.map_cons, List.map_nil]); first | done | rfl | (simp only [List.length_drop, List.length_take]; rfl)) ?_; (with_reducible refine (impl_number.calls (rdOf ByteArray.empty t246 x25_2) 60 t250 _ (by repeat (first | exact HLaidErr_.out | exact LaidErr.below HLaidErr_.out HB.out | exact LaidErr.below HLaidErr_.out (Drawn0.below ⟨⟨_, rfl⟩⟩) | apply LaidErr.drew)) (by repeat (first | exact HLaidPow_.out | exact LaidPow.below HLaidPow_.out HB.out | exact LaidPow.below HLaidPow_.out (Drawn0.below ⟨⟨_, rfl⟩⟩) | apply LaidPow.drew)) A24.out).mono ?_); rintro e w26 ⟨rfl, hb⟩; refine ⟨_, rfl, ?_⟩; have n0_ := Aside0.mk (Kd.S_below (by (with_reducible repeat (first | apply Kd.S_alloc | apply Kd.S_drewN | apply Kd.S_drew)); exact HO_4.out) hb); have n1_ := Aside0.mk (Kd.R_below (by (with_reducible repeat (first | apply Kd.R_alloc | apply Kd.R_drewN | apply Kd.R_drew)); exact HO_7.out) hb); have n2_ := Aside0.mk (Kd.R_below (by (with_reducible repeat (first | apply Kd.R_alloc | apply Kd.R_drewN | apply Kd.R_drew)); exact HO_13.out) hb); have n3_ := Aside0.mk (Kd.R_below (by (with_reducible repeat (first | apply Kd.R_alloc | apply Kd.R_drewN | apply Kd.R_drew)); exact HO_23.out) hb); have n4_ := Aside0.mk (below_step (by repeat (first | (with_reducible first | exact HB.out | apply below_alloc | apply pw_below_drewN | apply below_drew1) | exact HB.out)) hb); clear HO_4; clear HO_7; clear HO_13; clear HO_23; clear HB; have HO_4 := n0_; have HO_7 := n1_; have HO_13 := n2_; have HO_23 := n3_; have HB := n4_; clear n0_ n1_ n2_ n3_ n4_; (try clear hb); (try clear hb2); (try clear hk); (try clear hi)))
                          go_ret2
                          exact ⟨_, by first | rfl | (simp [errW_none, errW_some] <;> rfl) | (simp [*, errW_none, errW_some] <;> rfl), by first | exact Kd.S_nil _ _ _ _ _ | exact Kd.N_nil _ _ _ _ _ | exact Kd.V_nil _ _ _ _ _ | exact Kd.Q_nil _ _ _ _ _ | exact Kd.R_nil _ _ _ _ _, by repeat (first | (with_reducible first | exact HB.out | apply below_alloc | apply pw_below_drewN | apply below_drew1) | exact HB.out)⟩
                        · rw [if_neg c25] at H
                          have c25b0 : decide (t250 < 0) = false := decide_eq_false c25
                          clear c25
                          by_cases c27 : x7_2.length < 140737488355328
                          · rw [if_pos c27] at H
                            have LMc27 := Aside0.mk c27
                            clear c27
                            obtain ⟨y251, hy251⟩ : ∃ y_ : List Int, y_ = (x7_2 ++ [IntKind.i8.wrap (t250)]) := ⟨_, rfl⟩
                            replace H : (impl_ReadGame.l1 k2 x4_1 y251 t235 (t235.length : Int) x15_1 t246 (t246.length : Int) (wrap64 (x25_2 + 1))) = some (r1, r2) := by first | (rw [hy251]; with_reducible exact H) | (have H2_ := (Option.bind_some _ _).symm.trans H; rw [hy251]; with_reducible exact H2_) | (have H2_ := (Option.bind_some _ _).symm.trans H; with_reducible exact H2_) | with_reducible exact H | (rw [hy251]; exact H) | exact H
                            have Ny251 := Aside0.mk hy251
                            clear hy251
                            have H' := Aside0.mk H
                            clear H
                            have p249 : 0 ≤ (x25_2 : Int) := of_decide_eq_true (by first | (with_reducible assumption) | assumption)
                            have q249 : x25_2 < (t246.length : Int) := of_decide_eq_true (by first | (with_reducible assumption) | assumption)
                            obtain ⟨ad249, e249, hx249_0⟩ := Kd.at_string (Kd.R_reads' HO_23.out).2.2 x25_2 p249 q249
                            cases e249
                            replace p249 := eq_true p249
                            replace q249 := eq_true q249
                            go_wp2_with (first | ((with_reducible refine gate_callee (f := 32) rfl ?_); refine goesL_ (some 30) rfl rfl Tryz.func32 (by kernel_rfl) rfl #[.string (rdOf ByteArray.empty t246 x25_2), .int .i64 60] rfl (by (try simp only [List.map_toArray, List.map_cons, List.map_nil]); first | done | rfl | (simp only [List.length_drop, List.length_take]; rfl)) ?_; (with_reducible refine (impl_number.calls (rdOf ByteArray.empty t246 x25_2) 60 t250 _ (by repeat (first | exact HLaidErr_.out | exact LaidErr.below HLaidErr_.out HB.out | exact LaidErr.below HLaidErr_.out (Drawn0.below ⟨⟨_, rfl⟩⟩) | apply LaidErr.drew)) (by repeat (first | exact HLaidPow_.out | exact LaidPow.below HLaidPow_.out HB.out | exact LaidPow.below HLaidPow_.out (Drawn0.below ⟨⟨_, rfl⟩⟩) | apply LaidPow.drew)) A24.out).mono ?_); rintro e w28 ⟨rfl, hb⟩; refine ⟨_, rfl, ?_⟩; have n0_ := Aside0.mk (Kd.S_below (by (with_reducible repeat (first | apply Kd.S_alloc | apply Kd.S_drewN | apply Kd.S_drew)); exact HO_4.out) hb); have n1_ := Aside0.mk (Kd.R_below (by (with_reducible repeat (first | apply Kd.R_alloc | apply Kd.R_drewN | apply Kd.R_drew)); exact HO_7.out) hb); have n2_ := Aside0.mk (Kd.R_below (by (with_reducible repeat (first | apply Kd.R_alloc | apply Kd.R_drewN | apply Kd.R_drew)); exact HO_13.out) hb); have n3_ := Aside0.mk (Kd.R_below (by (with_reducible repeat (first | apply Kd.R_alloc | apply Kd.R_drewN | apply Kd.R_drew)); exact HO_23.out) hb); have n4_ := Aside0.mk (below_step (by repeat (first | (with_reducible first | exact HB.out | apply below_alloc | apply pw_below_drewN | apply below_drew1) | exact HB.out)) hb); clear HO_4; clear HO_7; clear HO_13; clear HO_23; clear HB; have HO_4 := n0_; have HO_7 := n1_; have HO_13 := n2_; have HO_23 := n3_; have HB := n4_; clear n0_ n1_ n2_ n3_ n4_; (try clear hb); (try clear hb2); (try clear hk); (try clear hi)) | ((with_reducible refine gate_builtin (b := .append) (xs := #[.tmp 33, .tmp 36]) rfl ?_); at_builtin; refine Kd.R_append (Kd.int .i8) (w0 := w) w.heap.size rfl (.tmp 33) (.tmp 36) 55 66 (.int .i8 0) 1 rfl Tryz.underlying55 info66 rfl (by decide) (by omega) u7 x7_2 (IntKind.i8.wrap (t250)) [.int .i8 (IntKind.i8.wrap (t250))] (fun _ => True) (fun _ => False) rfl rfl ?aP (fun _ hk => hk.elim) ?aF ?aO ?aB ?aS ?aL ?_; (case aP => exact rfl); (case aB => exact (by repeat (first | (with_reducible first | exact HB.out | apply below_alloc | apply pw_below_drewN | apply below_drew1) | exact HB.out))); (case aF => exact (fun _ _ => trivial)); (case aO => exact (by (with_reducible repeat (first | apply Kd.R_alloc | apply Kd.R_drewN | apply Kd.R_drew)); exact HO_7.out)); (case aS => exact (below_size (by repeat (first | (with_reducible first | exact HB.out | apply below_alloc | apply pw_below_drewN | apply below_drew1) | exact HB.out)))); (case aL => have := LMc27.out; omega); intro v252 w29 ho hb hg hat; rw [← Ny251.out] at ho; have n0_ := Aside0.mk (Kd.S_after (ok := (fun _ => True)) (by (with_reducible repeat (first | apply Kd.S_alloc | apply Kd.S_drewN | apply Kd.S_drew)); exact Kd.S_mono HO_4.out (fun _ hk => ⟨trivial, hk⟩)) hg hat); have n1_ := Aside0.mk (Kd.R_over' (by (with_reducible repeat (first | apply Kd.R_alloc | apply Kd.R_drewN | apply Kd.R_drew)); exact HO_13.out) (Kd.R_typed (by (with_reducible repeat (first | apply Kd.R_alloc | apply Kd.R_drewN | apply Kd.R_drew)); exact HO_7.out)) (by decide) hg); have n2_ := Aside0.mk (Kd.R_over' (by (with_reducible repeat (first | apply Kd.R_alloc | apply Kd.R_drewN | apply Kd.R_drew)); exact HO_23.out) (Kd.R_typed (by (with_reducible repeat (first | apply Kd.R_alloc | apply Kd.R_drewN | apply Kd.R_drew)); exact HO_7.out)) (by decide) hg); have n3_ := Aside0.mk (hb); have n4_ := Aside0.mk (ho); clear HO_4; clear HO_13; clear HO_23; clear HB; clear HO_7; have HO_4 := n0_; have HO_13 := n1_; have HO_23 := n2_; have HB := n3_; have HO253 := n4_; clear n0_ n1_ n2_ n3_ n4_; clear ho hb hg hat))
                            go_roundg k2
                            case measure => have := HK1.out; have := HK2.out; omega
                            case rel => exact ⟨(y251), (wrap64 (x25_2 + 1)), (by first | rfl | (simp; done) | (simp [*]; done)), H', ⟨by have := HK1.out; have := HK2.out; omega⟩, ⟨by (with_reducible repeat (first | apply Kd.S_alloc | apply Kd.S_drewN | apply Kd.S_drew)); exact Kd.S_mono HO_4.out (fun _ hk => hk.2)⟩, ⟨by (with_reducible repeat (first | apply Kd.R_alloc | apply Kd.R_drewN | apply Kd.R_drew)); exact HO253.out⟩, ⟨by (with_reducible repeat (first | apply Kd.R_alloc | apply Kd.R_drewN | apply Kd.R_drew)); exact HO_13.out⟩, ⟨by (with_reducible repeat (first | apply Kd.R_alloc | apply Kd.R_drewN | apply Kd.R_drew)); exact HO_23.out⟩, ⟨by repeat (first | (with_reducible first | exact HB.out | apply below_alloc | apply pw_below_drewN | apply below_drew1) | exact HB.out)⟩⟩
                          · rw [if_neg c27] at H
                            exact absurd H (by simp)
                      · rw [if_neg c23] at H
                        exact absurd H (by simp)
                    · rw [if_neg c22] at H
                      exact absurd H (by simp)
                  · rw [if_neg c21] at H
                    have c21b0 : decide (x25_2 < (t246.length : Int)) = false := decide_eq_false c21
                    clear c21
                    by_cases c30 : x4_1.length < 5864062014805
                    · rw [if_pos c30] at H
                      have LMc30 := Aside0.mk c30
                      clear c30
                      obtain ⟨y254, hy254⟩ : ∃ y_ : List (List Int), y_ = (x4_1 ++ [x7_2]) := ⟨_, rfl⟩
                      replace H : (impl_ReadGame.l0 k2 y254 t235 (t235.length : Int) (wrap64 (x15_1 + 1))) = some (r1, r2) := by first | (rw [hy254]; with_reducible exact H) | (have H2_ := (Option.bind_some _ _).symm.trans H; rw [hy254]; with_reducible exact H2_) | (have H2_ := (Option.bind_some _ _).symm.trans H; with_reducible exact H2_) | with_reducible exact H | (rw [hy254]; exact H) | exact H
                      have Ny254 := Aside0.mk hy254
                      clear hy254
                      have H' := Aside0.mk H
                      clear H
                      obtain ⟨Ao32, co32, eo32⟩ := Kd.R_slice HO_7.out
                      subst eo32
                      go_wp2_with (first | ((with_reducible refine gate_builtin (b := .append) (xs := #[.tmp 39, .tmp 41]) rfl ?_); at_builtin; refine Kd.S_append (Kd.slice 66 (Kd.int .i8)) (w0 := w) w.heap.size rfl (.tmp 39) (.tmp 41) 25 55 (.slice none 0 0) 24 rfl Tryz.underlying25 info55 rfl (by decide) (by omega) u4 x4_1 x7_2 [.slice Ao32 x7_2.length co32] (fun _ => True) (fun k_ => some k_ = (.slice Ao32 x7_2.length co32 : Value).ownBlock) rfl rfl ?aP (fun k_ hk_ => ((Kd.R_mono (ok' := fun k_ => ((fun _ => True)) k_ ∧ some k_ ≠ (u4 : Value).ownBlock) (Kd.R_apart' (HO_7.out) (Kd.S_typed HO_4.out) (by decide)) (fun k_ hk => ⟨trivial, hk.2⟩))).1 k_ hk_.symm) ?aF ?aO ?aB ?aS ?aL ?_; (case aP => exact Kd.M_row (Kd.R_mono (Kd.R_tight rfl (Kd.R_mono (ok' := fun k_ => ((fun _ => True)) k_ ∧ some k_ ≠ (u4 : Value).ownBlock) (Kd.R_apart' (HO_7.out) (Kd.S_typed HO_4.out) (by decide)) (fun k_ hk => ⟨trivial, hk.2⟩))) (fun _ h_ => h_))); (case aB => exact (by repeat (first | (with_reducible first | exact HB.out | apply below_alloc | apply pw_below_drewN | apply below_drew1) | exact HB.out))); (case aF => exact (fun _ _ => trivial)); (case aO => exact (by (with_reducible repeat (first | apply Kd.S_alloc | apply Kd.S_drewN | apply Kd.S_drew)); exact Kd.S_mono HO_4.out (fun k_ hk => ⟨trivial, fun e_ => hk e_⟩))); (case aS => exact (below_size (by repeat (first | (with_reducible first | exact HB.out | apply below_alloc | apply pw_below_drewN | apply below_drew1) | exact HB.out)))); (case aL => have := LMc30.out; omega); intro v255 w31 ho hb hg hat; rw [← Ny254.out] at ho; have n0_ := Aside0.mk (Kd.R_over' (by (with_reducible repeat (first | apply Kd.R_alloc | apply Kd.R_drewN | apply Kd.R_drew)); exact HO_13.out) (Kd.S_typed (by (with_reducible repeat (first | apply Kd.S_alloc | apply Kd.S_drewN | apply Kd.S_drew)); exact HO_4.out)) (by decide) hg); have n1_ := Aside0.mk (Kd.R_over' (by (with_reducible repeat (first | apply Kd.R_alloc | apply Kd.R_drewN | apply Kd.R_drew)); exact HO_23.out) (Kd.S_typed (by (with_reducible repeat (first | apply Kd.S_alloc | apply Kd.S_drewN | apply Kd.S_drew)); exact HO_4.out)) (by decide) hg); have n2_ := Aside0.mk (hb); have n3_ := Aside0.mk (ho); clear HO_13; clear HO_23; clear HB; clear HO_4; clear HO_7; have HO_13 := n0_; have HO_23 := n1_; have HB := n2_; have HO256 := n3_; clear n0_ n1_ n2_ n3_; clear ho hb hg hat))
                      go_roundg k2
                      case measure => have := HK1.out; have := HK2.out; omega
                      case rel => exact ⟨(y254), (wrap64 (x15_1 + 1)), (by first | rfl | (simp; done) | (simp [*]; done)), H', ⟨by have := HK1.out; have := HK2.out; omega⟩, ⟨by (with_reducible repeat (first | apply Kd.S_alloc | apply Kd.S_drewN | apply Kd.S_drew)); exact HO256.out⟩, ⟨by (with_reducible repeat (first | apply Kd.R_alloc | apply Kd.R_drewN | apply Kd.R_drew)); exact Kd.R_mono HO_13.out (fun _ hk => trivial)⟩, ⟨by repeat (first | (with_reducible first | exact HB.out | apply below_alloc | apply pw_below_drewN | apply below_drew1) | exact HB.out)⟩⟩
                    · rw [if_neg c30] at H
                      exact absurd H (by simp)
          · rw [if_neg c9] at H
            exact absurd H (by simp)
        · rw [if_neg c8] at H
          exact absurd H (by simp)
      · rw [if_neg c7] at H
        have c7b0 : decide (x15_1 < (t235.length : Int)) = false := decide_eq_false c7
        clear c7
        replace H := Option.bind_eq_some_iff.mp H
        obtain ⟨t238, A330, H⟩ := H
        replace H : (if t238 = true then (some (x4_1, 0)) else (some (([] : List (List Int)), 5))) = some (r1, r2) := H
        have A33 := Aside0.mk A330
        clear A330
        by_cases c34 : t238 = true
        · subst c34
          have H1 : (some (x4_1, 0)) = some (r1, r2) := by rw [if_pos rfl] at H; exact H
          clear H
          have H := H1
          clear H1
          simp only [Option.some.injEq, Prod.mk.injEq] at H
          obtain ⟨rfl, rfl⟩ := H
          obtain ⟨Ao35, co35, eo35⟩ := Kd.S_slice HO_4.out
          subst eo35
          go_wp2_with (first | ((with_reducible refine gate_callee (f := 15) rfl ?_); refine goesL_ (some 45) rfl rfl Tryz.func15 (by kernel_rfl) rfl #[.slice Ao35 x4_1.length co35] rfl (by (try simp only [List.map_toArray, List.map_cons, List.map_nil]); first | done | rfl | (simp only [List.length_drop, List.length_take]; rfl)) ?_; (with_reducible refine (impl_ValidGame.calls k1 _ _ x4_1 true _ ?side1 ?side2 A33.out).mono ?_); (case side1 => repeat (first | exact (Kd.S_reads' HO_4.out).2.2 | (with_reducible refine Kd.C_alloc ?_ _) | (with_reducible refine Kd.C_drewN ?_ _) | (with_reducible refine Kd.C_drew ?_))); (case side2 => exact (Kd.S_reads' HO_4.out).2.1); rintro e w' ⟨rfl, ⟨nd, rfl⟩⟩; refine ⟨_, rfl, ?_⟩))
          go_ret2
          exact ⟨_, by first | rfl | (simp [errW_none, errW_some] <;> rfl) | (simp [*, errW_none, errW_some] <;> rfl), by (with_reducible repeat (first | apply Kd.S_alloc | apply Kd.S_drewN | apply Kd.S_drew)); exact HO_4.out, by repeat (first | (with_reducible first | exact HB.out | apply below_alloc | apply pw_below_drewN | apply below_drew1) | exact HB.out)⟩
        · replace c34 := Bool.eq_false_iff.mpr c34
          subst c34
          have H1 : (some (([] : List (List Int)), 5)) = some (r1, r2) := by rw [if_neg (show ¬ (false = true) by decide)] at H; exact H
          clear H
          have H := H1
          clear H1
          simp only [Option.some.injEq, Prod.mk.injEq] at H
          obtain ⟨rfl, rfl⟩ := H
          obtain ⟨Ao36, co36, eo36⟩ := Kd.S_slice HO_4.out
          subst eo36
          go_wp2_with (first | ((with_reducible refine gate_callee (f := 15) rfl ?_); refine goesL_ (some 45) rfl rfl Tryz.func15 (by kernel_rfl) rfl #[.slice Ao36 x4_1.length co36] rfl (by (try simp only [List.map_toArray, List.map_cons, List.map_nil]); first | done | rfl | (simp only [List.length_drop, List.length_take]; rfl)) ?_; (with_reducible refine (impl_ValidGame.calls k1 _ _ x4_1 false _ ?side1 ?side2 A33.out).mono ?_); (case side1 => repeat (first | exact (Kd.S_reads' HO_4.out).2.2 | (with_reducible refine Kd.C_alloc ?_ _) | (with_reducible refine Kd.C_drewN ?_ _) | (with_reducible refine Kd.C_drew ?_))); (case side2 => exact (Kd.S_reads' HO_4.out).2.1); rintro e w' ⟨rfl, ⟨nd, rfl⟩⟩; refine ⟨_, rfl, ?_⟩))
          go_ret2
          exact ⟨_, by first | rfl | (simp [errW_none, errW_some] <;> rfl) | (simp [*, errW_none, errW_some] <;> rfl), by first | exact Kd.S_nil _ _ _ _ _ | exact Kd.N_nil _ _ _ _ _ | exact Kd.V_nil _ _ _ _ _ | exact Kd.Q_nil _ _ _ _ _ | exact Kd.R_nil _ _ _ _ _, by repeat (first | (with_reducible first | exact HB.out | apply below_alloc | apply pw_below_drewN | apply below_drew1) | exact HB.out)⟩

-- NOT PRINTED: function 83 (abi_NoEscape)

-- NOT PRINTED: function 67 (strings_Builder_copyCheck)

-- NOT PRINTED: function 84 (bytealg_MakeNoZero)

-- NOT PRINTED: function 68 (strings_Builder_grow)

-- NOT PRINTED: function 53 (strings_Builder_Grow)

-- NOT PRINTED: function 54 (strings_Builder_WriteString)

-- NOT PRINTED: function 55 (strings_Builder_String)

/-! ### strings_Join: function 34 -/
/-- The words with what stands between them. -/
def joinS (l0 : List ByteArray) (a1 : ByteArray) : ByteArray := ⟨(Go.Lib.join (l0.map (·.data.toList)) a1.data.toList).toArray⟩
def strings_Join.f (l0 : List ByteArray) (a1 : ByteArray) : Option (ByteArray) := if l0.length ≤ 140737488355328 ∧ (joinS l0 a1).size ≤ 140737488355328 then some (joinS l0 a1) else none
theorem joinS_size (l0 : List ByteArray) (a1 : ByteArray) : (joinS l0 a1).size = (Go.Lib.join (l0.map (·.data.toList)) a1.data.toList).length := by
  show (Go.Lib.join (l0.map (·.data.toList)) a1.data.toList).toArray.size = _
  rw [List.size_toArray]
theorem strings_Join.calls (A0 : Option Addr) (c0 : Nat) (l0 : List ByteArray) (a1 : ByteArray) (r : ByteArray) (w : World) (hr0 : Kd.C Kd.string w A0 l0.length l0) (hc0 : l0.length ≤ c0) (h : strings_Join.f l0 a1 = some r) :
    Calls Tryz.prog 34 #[.slice A0 l0.length c0, .string a1] w fun e w' => e = .returned (.string r) ∧ Below w.heap.size w w' := by
  unfold strings_Join.f at h
  by_cases c : l0.length ≤ 140737488355328 ∧ (joinS l0 a1).size ≤ 140737488355328
  · rw [if_pos c] at h
    obtain rfl := Option.some.inj h
    have hR := Kd.reads_of_C (enc := Value.string) (d := ByteArray.empty) (h1 := fun _ => rfl) hr0
    by_cases hz : l0.length = 0
    · obtain rfl : l0 = [] := List.length_eq_zero_iff.1 hz
      refine (Tryz.strings_Join_none A0 c0 a1 w).mono ?_
      rintro e w' ⟨rfl, rfl⟩
      exact ⟨rfl, Below.refl _ _⟩
    · obtain ⟨ad, rfl, hcc⟩ := hR.2.2 (by omega)
      have h00 := hcc 0 (by omega)
      obtain ⟨bk, o, sp⟩ := ad
      have hsp : sp = none := by
        cases sp with
        | none => rfl
        | some x =>
          unfold World.cell? at h00
          split at h00
          · simp [Addr.add] at h00
          · cases h00
      subst hsp
      have hbk : bk < w.heap.size := by
        rcases Nat.lt_or_ge bk w.heap.size with q | q
        · exact q
        · unfold World.cell? at h00
          rw [show (Addr.add ⟨bk, o, none⟩ 0).block = bk from rfl, Array.getElem?_eq_none q] at h00
          cases h00
      refine (Tryz.strings_Join bk o c0 l0 a1 w ?_ hbk c.1 hc0 (by rw [← joinS_size]; exact c.2)).mono ?_
      · intro j x hx
        obtain ⟨hj, hjx⟩ := List.getElem?_eq_some_iff.1 hx
        have := hcc j hj
        rw [List.getD_eq_getElem?_getD, hx] at this
        cases j <;> simpa [Addr.add] using this
      · rintro e w' ⟨rfl, hb⟩
        exact ⟨rfl, hb⟩
  · rw [if_neg c] at h
    exact absurd h (by simp)

end Go.Proofs.YtojjakjpdkpmiaaGreatDoor.QFnPlaces
