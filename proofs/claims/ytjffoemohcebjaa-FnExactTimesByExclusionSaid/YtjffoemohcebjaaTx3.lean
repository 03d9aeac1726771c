/- TimesByExclusion, the program's: it fills the same table. The numbers are at most 31. -/
import Derived.Test.YtjffoemohcebjaaTx2
import Derived.Test.YtjffoemohcebjaaMx16
import Derived.Test.YtjffoemohcebjaaPureFnExactExcludedBy
import Derived.Deep.RegionHeld
import Derived.StillTail
set_option linter.unusedVariables false
set_option linter.unusedSimpArgs false
namespace Go.Proofs.Ytjffoemohcebjaa.Tx
open Go.RowKit Go.Proofs.Ytjffoemohcebjaa.Lib Go.Proofs.Ytjffoemohcebjaa.Arr Go.Proofs.Ytjffoemohcebjaa.Mx Go.Proofs.YtjffoemohcebjaaW.PrintWords Go.Proofs.YtjffoemohcebjaaW.PrintLast

theorem info29 : (Try.prog.info? 29).map (fun i => (i.zero, i.size, i.bytes)) = some (some (.int .u16 0), 1, 2) := by kernel_rfl
/-- The table's block and the list. -/
structure LS (w w' : World) (t : List Int) (v : Value) (xs : List Int) : Prop where
  tb : Tb w w' t
  r : Kd.R (Kd.int .u16) 29 w' w.heap.size (fun k => k ≠ w.heap.size) v xs
theorem LS.drewN {w w' t v xs} (h : LS w w' t v xs) (m : Nat) : LS w (w'.drewN m) t v xs := ⟨h.tb.drewN m, Kd.R_drewN h.r m⟩
theorem LS.start {w W w7 : World} {t : List Int} {v0 : Value} (h : Tb w W t) (hr : Kd.R (Kd.int .u16) 29 w7 W.heap.size (fun _ => True) v0 []) (hb : Below W.heap.size W w7) : LS w w7 t v0 [] :=
  have hs := h.size
  ⟨h.step hb, Kd.R_lower (Kd.R_mono (Kd.R_bound hr) (fun k hk => by have := hk.2.1; omega)) (Nat.le_of_lt hs)⟩
theorem LS.own {w w' t v xs} (h : LS w w' t v xs) : some w.heap.size ≠ v.ownBlock := fun e => h.r.1 _ e.symm rfl
theorem LS.appended {w W w1 : World} {t : List Int} {v v1 : Value} {xs ys : List Int} (h : LS w W t v xs) (hr : Kd.R (Kd.int .u16) 29 w1 w.heap.size (fun k => k ≠ w.heap.size) v1 ys) (hb : Below w.heap.size w w1) (hg : W.grownBy w1 v.ownBlock) : LS w w1 t v1 ys :=
  ⟨⟨hb, by rw [hg.block _ h.tb.size h.own]; exact h.tb.hg⟩, hr⟩
theorem mex_ev (l : List Int) (hl : l.length ≤ 961) (hr : ∀ x ∈ l, 0 ≤ x ∧ x ≤ 65535) : ∃ k, QFnExactExcludedBy.impl_mex.f k l = some ((mexN l : Nat) : Int) := by
  obtain ⟨k, hk⟩ := Pure.impl_mex_ev l (by omega) hr
  exact ⟨k, hk k (Nat.le_refl _)⟩
section
variable {P : Program} {md : Region.Mode} {Q : Exit → Act → World → Prop} {S : World → Prop}
/-- What is left of a region has one order. -/
theorem wpAnyH_seq {ops : Array Oper} (hS : ∀ w, S w) : ∀ (l : List Oper) (k g : Nat) (listed : Array Bool) (a : Act) (w : World), (∀ j, l[j]? = ops[k + j]?) →
    Region.seqB md ops l.length k listed = true → l.length ≤ g → wpList P ops Q l a w → wpAnyH P md ops Q S g listed a w
  | [], _, g, _, _, _, _, hB, _, h => wpAnyH_done (by simpa [Region.seqB] using hB) h g
  | o :: l, k, 0, _, _, _, _, _, hg, _ => absurd hg (by simp)
  | o :: l, k, g + 1, listed, a, w, hl, hB, hg, h => by
    have h0 : ops[k]? = some o := by simpa using (hl 0).symm
    simp only [List.length_cons, Region.seqB, Bool.and_eq_true, decide_eq_true_eq] at hB
    refine wpAnyH_all hB.1 (by simp) (fun i hi => ?_)
    obtain rfl : i = k := by simpa using hi
    have hw : wpOp P ops Q i (wpList P ops Q l) a w := by unfold wpOp; simp only [h0]; exact h
    exact wpOp_mono (fun a' w' h' => ⟨hS w', wpAnyH_seq hS l (i + 1) g _ a' w' (fun j => by have := hl (j + 1); simpa [Nat.add_assoc, Nat.add_comm 1 j] using this) hB.2 (by simpa using hg) h'⟩) hw
theorem wpAnyH_drop {l : List Oper} {g : Nat} {listed : Array Bool} {a : Act} {w : World} (n : Nat) (hS : ∀ w, S w) (hB : Region.seqB md l.toArray (l.length - n) n listed = true) (hg : l.length - n ≤ g) (h : wpList P l.toArray Q (l.drop n) a w) : wpAnyH P md l.toArray Q S g listed a w :=
  wpAnyH_seq hS (l.drop n) n g listed a w (fun j => by simp [List.getElem?_drop]) (by rw [List.length_drop]; exact hB) (by rw [List.length_drop]; exact hg) h
end
set_option maxHeartbeats 3200000 in
set_option maxRecDepth 100000 in
theorem implTimes_in (a b : Nat) (ha : a ≤ 31) (hb : b ≤ 31) (w : World) :
    Calls Try.prog 30 #[.int .u16 a, .int .u16 b] w fun e w' => e = .returned (.tuple #[.int .u16 ((tabT (b + 1) (a + 1)).getD (a * 32 + b) 0), .int .i64 0]) ∧ Below w.heap.size w w' := by
  have hA : ¬ (31 : Int) < (a : Int) := by omega
  have hB : ¬ (31 : Int) < (b : Int) := by omega
  have hwa := u16_next (n := a) (by omega)
  have hwb := u16_next (n := b) (by omega)
  have HX := Aside0.mk (Tb.start w z1024)
  have hz := zero69
  have hne := ne69
  have hst := store69
  have hsz := cuz_size
  have hso := sizeOf_of size69
  go_enter Try.func30, Try.ntmps30
  go_wp2_with fail
  clear hz hne hst hsz hso
  go_loopw [21] (fun i w' => ∃ n : Nat, n ≤ a + 1 ∧ i = .int .u16 n ∧ Aside0 (Tb w w' (tabT (b + 1) n))) (fun i w' => 40 - (intOf i).toNat)
  case atStart => exact ⟨0, by omega, rfl, HX⟩
  case round =>
    clear HX
    obtain ⟨n, hn, rfl, HX⟩ := hrel
    have hw16 := u16_next (n := n) (by omega)
    by_cases hln : n < a + 1
    · have lnI : (n : Int) < (a : Int) + 1 := by omega
      have n32 : (n : Int) < 32 := by omega
      have GT := Aside0.mk (good_tabT (b + 1) (by omega) n (by omega))
      go_wp2_with fail
      go_loopw [26] (fun k w' => ∃ m : Nat, m ≤ b + 1 ∧ k = .int .u16 m ∧ Aside0 (Tb w w' (rowT (tabT (b + 1) n) n m))) (fun k w' => 40 - (intOf k).toNat)
      case atStart => exact ⟨0, by omega, rfl, HX⟩
      case round =>
        clear HX
        obtain ⟨m, hm, rfl, HX⟩ := hrel
        have hv16 := u16_next (n := m) (by omega)
        by_cases hlm : m < b + 1
        · have lmI : (m : Int) < (b : Int) + 1 := by omega
          have m32 : (m : Int) < 32 := by omega
          have GR := Aside0.mk (good_rowT GT.out (by omega) m (by omega))
          have HR := Aside0.mk (show stepT (rowT (tabT (b + 1) n) n m) n m = rowT (tabT (b + 1) n) n (m + 1) from rfl)
          generalize rowT (tabT (b + 1) n) n m = t at HX GR HR
          go_wp2_with (first | ((with_reducible refine gate_dst (N := 29) rfl ?_); refine Kd.R_lit (Kd.int .u16) _ 29 ?hg (N := 29) ?hd (xs := ([] : List Int)) (inner := []) (ok := fun _ => True) (okp := fun _ => True) ?hr ?hp (fun _ hk => hk) trivial (Below.refl _ _) (Nat.le_refl _) (by simp) ?_; (case hd => rfl); (case hg => rfl); (case hr => first | (go_simp; done) | (go_simp; rfl)); (case hp => exact (Reps.none _ _)); intro v0_ w7 ho8 hb_ hg_ hnew_; clear hg_ hnew_; have HL := Aside0.mk (LS.start HX.out ho8 hb_); clear ho8 hb_))
          go_loopw [31, 9] (fun x v9 w' => ∃ p : Nat, p ≤ n ∧ x = .int .u16 p ∧ Aside0 (LS w w' t v9 (exList t n m p 0))) (fun x v9 w' => 40 - (intOf x).toNat)
          case atStart => exact ⟨0, by omega, rfl, HL⟩
          case round =>
            clear HL
            obtain ⟨p, hp, rfl, HL⟩ := hrel
            have hx16 := u16_next (n := p) (by omega)
            by_cases hlp : p < n
            · have lpI : (p : Int) < (n : Int) := by omega
              have p32 : (p : Int) < 32 := by omega
              go_wp2_with fail
              go_loopw [35, 9] (fun y v9 w' => ∃ q : Nat, q ≤ m ∧ y = .int .u16 q ∧ Aside0 (LS w w' t v9 (exList t n m p q))) (fun y v9 w' => 40 - (intOf y).toNat)
              case atStart => exact ⟨0, by omega, rfl, HL⟩
              case round =>
                clear HL
                obtain ⟨q, hq, rfl, HL⟩ := hrel
                have hy16 := u16_next (n := q) (by omega)
                by_cases hlq : q < m
                · have lqI : (q : Int) < (m : Int) := by omega
                  have q32 : (q : Int) < 32 := by omega
                  have HN := Aside0.mk (exList_next t n m p q)
                  have HLen := Aside0.mk (exList_len t n m p q)
                  have HBd := Aside0.mk (show p * m + q ≤ 31 * 31 + 31 from Nat.add_le_add (Nat.mul_le_mul (by omega) (by omega)) (by omega))
                  obtain ⟨Ao, co, eo⟩ := Kd.R_slice HL.out.r
                  subst eo
                  have HD : Aside0 (LS w wr.drew t (.slice Ao (exList t n m p q).length co) (exList t n m p q)) := ⟨HL.out.drewN 1⟩
                  clear HL
                  obtain ⟨v, hv⟩ : ∃ v : Int, ex3 t n m p q = v := ⟨_, rfl⟩
                  have hV : Go.bits .xor .u16 (Go.bits .xor .u16 (t.getD (p * 32 + m) 0) (t.getD (n * 32 + q) 0)) (t.getD (p * 32 + q) 0) = v := hv
                  rw [hv] at HN
                  have HC1 := Aside0.mk (HD.out.tb.cell (p * 32 + m) (by rw [GR.out.len]; omega))
                  have HC2 := Aside0.mk (HD.out.tb.cell (n * 32 + q) (by rw [GR.out.len]; omega))
                  have HC3 := Aside0.mk (HD.out.tb.cell (p * 32 + q) (by rw [GR.out.len]; omega))
                  generalize t.getD (p * 32 + m) 0 = x1 at HC1 hV
                  generalize t.getD (n * 32 + q) 0 = x2 at HC2 hV
                  generalize t.getD (p * 32 + q) 0 = x3 at HC3 hV
                  clear hv
                  go_wp2_with fail
                  refine wp_region_held (S := fun _ => True) (by kernel_rfl) ?_
                  change wpAnyH _ _ _ _ _ _ _ _ wr.drew
                  generalize wr.drew = W1 at HD HC1 HC2 HC3 ⊢
                  refine wpAnyH_takeD (i := 0) (v := .slice Ao (exList t n m p q).length co) (some 38) rfl rfl (by kernel_rfl) (by kernel_rfl) (by kernel_rfl) (fun _ _ _ h => h) (.inl ⟨rfl, fun _ _ => by go_simp⟩) trivial ?_
                  simp only [Act.put, List.setIfInBounds_toArray, List.set_cons_zero, List.set_cons_succ]
                  refine wpAnyH_takeD (i := 1) (v := .int .u16 p) (some 39) rfl rfl (by kernel_rfl) (by kernel_rfl) (by kernel_rfl) (fun _ _ _ h => h) (.inl ⟨rfl, fun _ _ => by go_simp⟩) trivial ?_
                  simp only [Act.put, List.setIfInBounds_toArray, List.set_cons_zero, List.set_cons_succ]
                  refine wpAnyH_takeD (i := 2) (v := .int .u16 m) (some 40) rfl rfl (by kernel_rfl) (by kernel_rfl) (by kernel_rfl) (fun _ _ _ h => h) (.inl ⟨rfl, fun _ _ => by go_simp⟩) trivial ?_
                  simp only [Act.put, List.setIfInBounds_toArray, List.set_cons_zero, List.set_cons_succ]
                  refine wpAnyH_takeD (i := 3) (v := .pointer (some ⟨w.heap.size, p * 32, none⟩)) (some 41) rfl rfl (by kernel_rfl) (by kernel_rfl) (by kernel_rfl) (fun _ _ _ h => h) (.inl ⟨rfl, fun _ _ => by go_simp⟩) trivial ?_
                  simp only [Act.put, List.setIfInBounds_toArray, List.set_cons_zero, List.set_cons_succ]
                  refine wpAnyH_takeD (i := 4) (v := .pointer (some ⟨w.heap.size, p * 32 + m, none⟩)) (some 42) rfl rfl (by kernel_rfl) (by kernel_rfl) (by kernel_rfl) (fun _ _ _ h => h) (.inl ⟨rfl, fun _ _ => by go_simp⟩) trivial ?_
                  simp only [Act.put, List.setIfInBounds_toArray, List.set_cons_zero, List.set_cons_succ]
                  refine wpAnyH_takeD (i := 6) (v := .int .u16 n) (some 44) rfl rfl (by kernel_rfl) (by kernel_rfl) (by kernel_rfl) (fun _ _ _ h => h) (.inl ⟨rfl, fun _ _ => by go_simp⟩) trivial ?_
                  simp only [Act.put, List.setIfInBounds_toArray, List.set_cons_zero, List.set_cons_succ]
                  refine wpAnyH_takeD (i := 7) (v := .int .u16 q) (some 45) rfl rfl (by kernel_rfl) (by kernel_rfl) (by kernel_rfl) (fun _ _ _ h => h) (.inl ⟨rfl, fun _ _ => by go_simp⟩) trivial ?_
                  simp only [Act.put, List.setIfInBounds_toArray, List.set_cons_zero, List.set_cons_succ]
                  refine wpAnyH_takeD (i := 8) (v := .pointer (some ⟨w.heap.size, n * 32, none⟩)) (some 46) rfl rfl (by kernel_rfl) (by kernel_rfl) (by kernel_rfl) (fun _ _ _ h => h) (.inl ⟨rfl, fun _ _ => by go_simp⟩) trivial ?_
                  simp only [Act.put, List.setIfInBounds_toArray, List.set_cons_zero, List.set_cons_succ]
                  refine wpAnyH_takeD (i := 9) (v := .pointer (some ⟨w.heap.size, n * 32 + q, none⟩)) (some 47) rfl rfl (by kernel_rfl) (by kernel_rfl) (by kernel_rfl) (fun _ _ _ h => h) (.inl ⟨rfl, fun _ _ => by go_simp⟩) trivial ?_
                  simp only [Act.put, List.setIfInBounds_toArray, List.set_cons_zero, List.set_cons_succ]
                  refine wpAnyH_takeD (i := 12) (v := .int .u16 p) (some 50) rfl rfl (by kernel_rfl) (by kernel_rfl) (by kernel_rfl) (fun _ _ _ h => h) (.inl ⟨rfl, fun _ _ => by go_simp⟩) trivial ?_
                  simp only [Act.put, List.setIfInBounds_toArray, List.set_cons_zero, List.set_cons_succ]
                  refine wpAnyH_takeD (i := 13) (v := .int .u16 q) (some 51) rfl rfl (by kernel_rfl) (by kernel_rfl) (by kernel_rfl) (fun _ _ _ h => h) (.inl ⟨rfl, fun _ _ => by go_simp⟩) trivial ?_
                  simp only [Act.put, List.setIfInBounds_toArray, List.set_cons_zero, List.set_cons_succ]
                  refine wpAnyH_takeD (i := 14) (v := .pointer (some ⟨w.heap.size, p * 32, none⟩)) (some 52) rfl rfl (by kernel_rfl) (by kernel_rfl) (by kernel_rfl) (fun _ _ _ h => h) (.inl ⟨rfl, fun _ _ => by go_simp⟩) trivial ?_
                  simp only [Act.put, List.setIfInBounds_toArray, List.set_cons_zero, List.set_cons_succ]
                  refine wpAnyH_takeD (i := 15) (v := .pointer (some ⟨w.heap.size, p * 32 + q, none⟩)) (some 53) rfl rfl (by kernel_rfl) (by kernel_rfl) (by kernel_rfl) (fun _ _ _ h => h) (.inl ⟨rfl, fun _ _ => by go_simp⟩) trivial ?_
                  simp only [Act.put, List.setIfInBounds_toArray, List.set_cons_zero, List.set_cons_succ]
                  have c1 := HC1.out
                  have c2 := HC2.out
                  have c3 := HC3.out
                  refine wpAnyH_ready (rs := [5, 10, 16]) (by kernel_rfl) (by simp) (AllReadyH.cons rfl (fun K_ hK_ => ?_) (AllReadyH.cons rfl (fun K_ hK_ => ?_) (AllReadyH.cons rfl (fun K_ hK_ => ?_) AllReadyH.nil)))
                  · go_simp
                    refine hK_.out _ _ trivial (fun _ => ?_)
                    clear hK_ K_
                    try simp only [Act.put, List.setIfInBounds_toArray, List.set_cons_zero, List.set_cons_succ]
                    refine wpAnyH_ready (rs := [10, 16]) (by kernel_rfl) (by simp) (AllReadyH.cons rfl (fun K_ hK_ => ?_) (AllReadyH.cons rfl (fun K_ hK_ => ?_) AllReadyH.nil))
                    · go_simp
                      refine hK_.out _ _ trivial (fun _ => ?_)
                      clear hK_ K_
                      try simp only [Act.put, List.setIfInBounds_toArray, List.set_cons_zero, List.set_cons_succ]
                      refine wpAnyH_takeD (i := 11) (v := .int .u16 (Go.bits .xor .u16 x1 x2)) (some 49) rfl rfl (by kernel_rfl) (by kernel_rfl) (by kernel_rfl) (fun _ _ _ h => h) (.inl ⟨rfl, fun _ _ => by go_simp⟩) trivial ?_
                      simp only [Act.put, List.setIfInBounds_toArray, List.set_cons_zero, List.set_cons_succ]
                      refine wpAnyH_ready (rs := [16]) (by kernel_rfl) (by simp) (AllReadyH.cons rfl (fun K_ hK_ => ?_) AllReadyH.nil)
                      go_simp
                      refine hK_.out _ _ trivial (fun _ => ?_)
                      clear hK_ K_
                      try simp only [Act.put, List.setIfInBounds_toArray, List.set_cons_zero, List.set_cons_succ]
                      refine wpAnyH_takeD (i := 17) (v := .int .u16 v) (some 55) rfl rfl (by kernel_rfl) (by kernel_rfl) (by kernel_rfl) (fun _ _ _ h => h) (.inl ⟨rfl, fun _ _ => by go_simp⟩) trivial ?_
                      simp only [Act.put, List.setIfInBounds_toArray, List.set_cons_zero, List.set_cons_succ]
                      refine wpAnyH_drop 18 (fun _ => trivial) (by kernel_rfl) (by decide) ?_
                      simp only [List.drop_succ_cons, List.drop_zero]
                      go_wp2_with (first | ((with_reducible refine gate_builtin (b := .append) (xs := #[.tmp 38, .tmp 56]) rfl ?_); at_builtin; refine Kd.R_append (Kd.int .u16) (w0 := w) w.heap.size rfl (.tmp 38) (.tmp 56) 50 29 (.int .u16 0) 2 rfl Try.underlying50 info29 rfl (by decide) (by omega) (.slice Ao (exList t n m p q).length co) (exList t n m p q) v [.int .u16 v] (fun k_ => k_ ≠ w.heap.size) (fun _ => False) rfl rfl ?aP (fun _ hk => hk.elim) ?aF ?aO ?aB ?aS ?aL ?_; (case aP => exact rfl); (case aB => exact HD.out.tb.hb); (case aF => exact (fun k_ hk => Nat.ne_of_gt (Nat.lt_of_lt_of_le HD.out.tb.size hk))); (case aO => exact HD.out.r); (case aS => exact (Nat.le_of_lt HD.out.tb.size)); (case aL => have h1_ := HLen.out; have h2_ := HBd.out; omega); intro v1_ w16 ho_ hb_ hg_ hat_; rw [← HN.out] at ho_; have HL2 := Aside0.mk (LS.appended HD.out ho_ hb_ hg_); clear ho_ hb_ hg_ hat_))
                      exact ⟨⟨q + 1, by omega, by go_num, HL2⟩, by simp [intOf]; omega⟩
                    · go_simp
                      refine hK_.out _ _ trivial (fun _ => ?_)
                      clear hK_ K_
                      try simp only [Act.put, List.setIfInBounds_toArray, List.set_cons_zero, List.set_cons_succ]
                      refine wpAnyH_ready (rs := [10]) (by kernel_rfl) (by simp) (AllReadyH.cons rfl (fun K_ hK_ => ?_) AllReadyH.nil)
                      go_simp
                      refine hK_.out _ _ trivial (fun _ => ?_)
                      clear hK_ K_
                      try simp only [Act.put, List.setIfInBounds_toArray, List.set_cons_zero, List.set_cons_succ]
                      refine wpAnyH_takeD (i := 11) (v := .int .u16 (Go.bits .xor .u16 x1 x2)) (some 49) rfl rfl (by kernel_rfl) (by kernel_rfl) (by kernel_rfl) (fun _ _ _ h => h) (.inl ⟨rfl, fun _ _ => by go_simp⟩) trivial ?_
                      simp only [Act.put, List.setIfInBounds_toArray, List.set_cons_zero, List.set_cons_succ]
                      refine wpAnyH_takeD (i := 17) (v := .int .u16 v) (some 55) rfl rfl (by kernel_rfl) (by kernel_rfl) (by kernel_rfl) (fun _ _ _ h => h) (.inl ⟨rfl, fun _ _ => by go_simp⟩) trivial ?_
                      simp only [Act.put, List.setIfInBounds_toArray, List.set_cons_zero, List.set_cons_succ]
                      refine wpAnyH_drop 18 (fun _ => trivial) (by kernel_rfl) (by decide) ?_
                      simp only [List.drop_succ_cons, List.drop_zero]
                      go_wp2_with (first | ((with_reducible refine gate_builtin (b := .append) (xs := #[.tmp 38, .tmp 56]) rfl ?_); at_builtin; refine Kd.R_append (Kd.int .u16) (w0 := w) w.heap.size rfl (.tmp 38) (.tmp 56) 50 29 (.int .u16 0) 2 rfl Try.underlying50 info29 rfl (by decide) (by omega) (.slice Ao (exList t n m p q).length co) (exList t n m p q) v [.int .u16 v] (fun k_ => k_ ≠ w.heap.size) (fun _ => False) rfl rfl ?aP (fun _ hk => hk.elim) ?aF ?aO ?aB ?aS ?aL ?_; (case aP => exact rfl); (case aB => exact HD.out.tb.hb); (case aF => exact (fun k_ hk => Nat.ne_of_gt (Nat.lt_of_lt_of_le HD.out.tb.size hk))); (case aO => exact HD.out.r); (case aS => exact (Nat.le_of_lt HD.out.tb.size)); (case aL => have h1_ := HLen.out; have h2_ := HBd.out; omega); intro v1_ w16 ho_ hb_ hg_ hat_; rw [← HN.out] at ho_; have HL2 := Aside0.mk (LS.appended HD.out ho_ hb_ hg_); clear ho_ hb_ hg_ hat_))
                      exact ⟨⟨q + 1, by omega, by go_num, HL2⟩, by simp [intOf]; omega⟩
                  · go_simp
                    refine hK_.out _ _ trivial (fun _ => ?_)
                    clear hK_ K_
                    try simp only [Act.put, List.setIfInBounds_toArray, List.set_cons_zero, List.set_cons_succ]
                    refine wpAnyH_ready (rs := [5, 16]) (by kernel_rfl) (by simp) (AllReadyH.cons rfl (fun K_ hK_ => ?_) (AllReadyH.cons rfl (fun K_ hK_ => ?_) AllReadyH.nil))
                    · go_simp
                      refine hK_.out _ _ trivial (fun _ => ?_)
                      clear hK_ K_
                      try simp only [Act.put, List.setIfInBounds_toArray, List.set_cons_zero, List.set_cons_succ]
                      refine wpAnyH_takeD (i := 11) (v := .int .u16 (Go.bits .xor .u16 x1 x2)) (some 49) rfl rfl (by kernel_rfl) (by kernel_rfl) (by kernel_rfl) (fun _ _ _ h => h) (.inl ⟨rfl, fun _ _ => by go_simp⟩) trivial ?_
                      simp only [Act.put, List.setIfInBounds_toArray, List.set_cons_zero, List.set_cons_succ]
                      refine wpAnyH_ready (rs := [16]) (by kernel_rfl) (by simp) (AllReadyH.cons rfl (fun K_ hK_ => ?_) AllReadyH.nil)
                      go_simp
                      refine hK_.out _ _ trivial (fun _ => ?_)
                      clear hK_ K_
                      try simp only [Act.put, List.setIfInBounds_toArray, List.set_cons_zero, List.set_cons_succ]
                      refine wpAnyH_takeD (i := 17) (v := .int .u16 v) (some 55) rfl rfl (by kernel_rfl) (by kernel_rfl) (by kernel_rfl) (fun _ _ _ h => h) (.inl ⟨rfl, fun _ _ => by go_simp⟩) trivial ?_
                      simp only [Act.put, List.setIfInBounds_toArray, List.set_cons_zero, List.set_cons_succ]
                      refine wpAnyH_drop 18 (fun _ => trivial) (by kernel_rfl) (by decide) ?_
                      simp only [List.drop_succ_cons, List.drop_zero]
                      go_wp2_with (first | ((with_reducible refine gate_builtin (b := .append) (xs := #[.tmp 38, .tmp 56]) rfl ?_); at_builtin; refine Kd.R_append (Kd.int .u16) (w0 := w) w.heap.size rfl (.tmp 38) (.tmp 56) 50 29 (.int .u16 0) 2 rfl Try.underlying50 info29 rfl (by decide) (by omega) (.slice Ao (exList t n m p q).length co) (exList t n m p q) v [.int .u16 v] (fun k_ => k_ ≠ w.heap.size) (fun _ => False) rfl rfl ?aP (fun _ hk => hk.elim) ?aF ?aO ?aB ?aS ?aL ?_; (case aP => exact rfl); (case aB => exact HD.out.tb.hb); (case aF => exact (fun k_ hk => Nat.ne_of_gt (Nat.lt_of_lt_of_le HD.out.tb.size hk))); (case aO => exact HD.out.r); (case aS => exact (Nat.le_of_lt HD.out.tb.size)); (case aL => have h1_ := HLen.out; have h2_ := HBd.out; omega); intro v1_ w16 ho_ hb_ hg_ hat_; rw [← HN.out] at ho_; have HL2 := Aside0.mk (LS.appended HD.out ho_ hb_ hg_); clear ho_ hb_ hg_ hat_))
                      exact ⟨⟨q + 1, by omega, by go_num, HL2⟩, by simp [intOf]; omega⟩
                    · go_simp
                      refine hK_.out _ _ trivial (fun _ => ?_)
                      clear hK_ K_
                      try simp only [Act.put, List.setIfInBounds_toArray, List.set_cons_zero, List.set_cons_succ]
                      refine wpAnyH_ready (rs := [5]) (by kernel_rfl) (by simp) (AllReadyH.cons rfl (fun K_ hK_ => ?_) AllReadyH.nil)
                      go_simp
                      refine hK_.out _ _ trivial (fun _ => ?_)
                      clear hK_ K_
                      try simp only [Act.put, List.setIfInBounds_toArray, List.set_cons_zero, List.set_cons_succ]
                      refine wpAnyH_takeD (i := 11) (v := .int .u16 (Go.bits .xor .u16 x1 x2)) (some 49) rfl rfl (by kernel_rfl) (by kernel_rfl) (by kernel_rfl) (fun _ _ _ h => h) (.inl ⟨rfl, fun _ _ => by go_simp⟩) trivial ?_
                      simp only [Act.put, List.setIfInBounds_toArray, List.set_cons_zero, List.set_cons_succ]
                      refine wpAnyH_takeD (i := 17) (v := .int .u16 v) (some 55) rfl rfl (by kernel_rfl) (by kernel_rfl) (by kernel_rfl) (fun _ _ _ h => h) (.inl ⟨rfl, fun _ _ => by go_simp⟩) trivial ?_
                      simp only [Act.put, List.setIfInBounds_toArray, List.set_cons_zero, List.set_cons_succ]
                      refine wpAnyH_drop 18 (fun _ => trivial) (by kernel_rfl) (by decide) ?_
                      simp only [List.drop_succ_cons, List.drop_zero]
                      go_wp2_with (first | ((with_reducible refine gate_builtin (b := .append) (xs := #[.tmp 38, .tmp 56]) rfl ?_); at_builtin; refine Kd.R_append (Kd.int .u16) (w0 := w) w.heap.size rfl (.tmp 38) (.tmp 56) 50 29 (.int .u16 0) 2 rfl Try.underlying50 info29 rfl (by decide) (by omega) (.slice Ao (exList t n m p q).length co) (exList t n m p q) v [.int .u16 v] (fun k_ => k_ ≠ w.heap.size) (fun _ => False) rfl rfl ?aP (fun _ hk => hk.elim) ?aF ?aO ?aB ?aS ?aL ?_; (case aP => exact rfl); (case aB => exact HD.out.tb.hb); (case aF => exact (fun k_ hk => Nat.ne_of_gt (Nat.lt_of_lt_of_le HD.out.tb.size hk))); (case aO => exact HD.out.r); (case aS => exact (Nat.le_of_lt HD.out.tb.size)); (case aL => have h1_ := HLen.out; have h2_ := HBd.out; omega); intro v1_ w16 ho_ hb_ hg_ hat_; rw [← HN.out] at ho_; have HL2 := Aside0.mk (LS.appended HD.out ho_ hb_ hg_); clear ho_ hb_ hg_ hat_))
                      exact ⟨⟨q + 1, by omega, by go_num, HL2⟩, by simp [intOf]; omega⟩
                  · go_simp
                    refine hK_.out _ _ trivial (fun _ => ?_)
                    clear hK_ K_
                    try simp only [Act.put, List.setIfInBounds_toArray, List.set_cons_zero, List.set_cons_succ]
                    refine wpAnyH_ready (rs := [5, 10]) (by kernel_rfl) (by simp) (AllReadyH.cons rfl (fun K_ hK_ => ?_) (AllReadyH.cons rfl (fun K_ hK_ => ?_) AllReadyH.nil))
                    · go_simp
                      refine hK_.out _ _ trivial (fun _ => ?_)
                      clear hK_ K_
                      try simp only [Act.put, List.setIfInBounds_toArray, List.set_cons_zero, List.set_cons_succ]
                      refine wpAnyH_ready (rs := [10]) (by kernel_rfl) (by simp) (AllReadyH.cons rfl (fun K_ hK_ => ?_) AllReadyH.nil)
                      go_simp
                      refine hK_.out _ _ trivial (fun _ => ?_)
                      clear hK_ K_
                      try simp only [Act.put, List.setIfInBounds_toArray, List.set_cons_zero, List.set_cons_succ]
                      refine wpAnyH_takeD (i := 11) (v := .int .u16 (Go.bits .xor .u16 x1 x2)) (some 49) rfl rfl (by kernel_rfl) (by kernel_rfl) (by kernel_rfl) (fun _ _ _ h => h) (.inl ⟨rfl, fun _ _ => by go_simp⟩) trivial ?_
                      simp only [Act.put, List.setIfInBounds_toArray, List.set_cons_zero, List.set_cons_succ]
                      refine wpAnyH_takeD (i := 17) (v := .int .u16 v) (some 55) rfl rfl (by kernel_rfl) (by kernel_rfl) (by kernel_rfl) (fun _ _ _ h => h) (.inl ⟨rfl, fun _ _ => by go_simp⟩) trivial ?_
                      simp only [Act.put, List.setIfInBounds_toArray, List.set_cons_zero, List.set_cons_succ]
                      refine wpAnyH_drop 18 (fun _ => trivial) (by kernel_rfl) (by decide) ?_
                      simp only [List.drop_succ_cons, List.drop_zero]
                      go_wp2_with (first | ((with_reducible refine gate_builtin (b := .append) (xs := #[.tmp 38, .tmp 56]) rfl ?_); at_builtin; refine Kd.R_append (Kd.int .u16) (w0 := w) w.heap.size rfl (.tmp 38) (.tmp 56) 50 29 (.int .u16 0) 2 rfl Try.underlying50 info29 rfl (by decide) (by omega) (.slice Ao (exList t n m p q).length co) (exList t n m p q) v [.int .u16 v] (fun k_ => k_ ≠ w.heap.size) (fun _ => False) rfl rfl ?aP (fun _ hk => hk.elim) ?aF ?aO ?aB ?aS ?aL ?_; (case aP => exact rfl); (case aB => exact HD.out.tb.hb); (case aF => exact (fun k_ hk => Nat.ne_of_gt (Nat.lt_of_lt_of_le HD.out.tb.size hk))); (case aO => exact HD.out.r); (case aS => exact (Nat.le_of_lt HD.out.tb.size)); (case aL => have h1_ := HLen.out; have h2_ := HBd.out; omega); intro v1_ w16 ho_ hb_ hg_ hat_; rw [← HN.out] at ho_; have HL2 := Aside0.mk (LS.appended HD.out ho_ hb_ hg_); clear ho_ hb_ hg_ hat_))
                      exact ⟨⟨q + 1, by omega, by go_num, HL2⟩, by simp [intOf]; omega⟩
                    · go_simp
                      refine hK_.out _ _ trivial (fun _ => ?_)
                      clear hK_ K_
                      try simp only [Act.put, List.setIfInBounds_toArray, List.set_cons_zero, List.set_cons_succ]
                      refine wpAnyH_ready (rs := [5]) (by kernel_rfl) (by simp) (AllReadyH.cons rfl (fun K_ hK_ => ?_) AllReadyH.nil)
                      go_simp
                      refine hK_.out _ _ trivial (fun _ => ?_)
                      clear hK_ K_
                      try simp only [Act.put, List.setIfInBounds_toArray, List.set_cons_zero, List.set_cons_succ]
                      refine wpAnyH_takeD (i := 11) (v := .int .u16 (Go.bits .xor .u16 x1 x2)) (some 49) rfl rfl (by kernel_rfl) (by kernel_rfl) (by kernel_rfl) (fun _ _ _ h => h) (.inl ⟨rfl, fun _ _ => by go_simp⟩) trivial ?_
                      simp only [Act.put, List.setIfInBounds_toArray, List.set_cons_zero, List.set_cons_succ]
                      refine wpAnyH_takeD (i := 17) (v := .int .u16 v) (some 55) rfl rfl (by kernel_rfl) (by kernel_rfl) (by kernel_rfl) (fun _ _ _ h => h) (.inl ⟨rfl, fun _ _ => by go_simp⟩) trivial ?_
                      simp only [Act.put, List.setIfInBounds_toArray, List.set_cons_zero, List.set_cons_succ]
                      refine wpAnyH_drop 18 (fun _ => trivial) (by kernel_rfl) (by decide) ?_
                      simp only [List.drop_succ_cons, List.drop_zero]
                      go_wp2_with (first | ((with_reducible refine gate_builtin (b := .append) (xs := #[.tmp 38, .tmp 56]) rfl ?_); at_builtin; refine Kd.R_append (Kd.int .u16) (w0 := w) w.heap.size rfl (.tmp 38) (.tmp 56) 50 29 (.int .u16 0) 2 rfl Try.underlying50 info29 rfl (by decide) (by omega) (.slice Ao (exList t n m p q).length co) (exList t n m p q) v [.int .u16 v] (fun k_ => k_ ≠ w.heap.size) (fun _ => False) rfl rfl ?aP (fun _ hk => hk.elim) ?aF ?aO ?aB ?aS ?aL ?_; (case aP => exact rfl); (case aB => exact HD.out.tb.hb); (case aF => exact (fun k_ hk => Nat.ne_of_gt (Nat.lt_of_lt_of_le HD.out.tb.size hk))); (case aO => exact HD.out.r); (case aS => exact (Nat.le_of_lt HD.out.tb.size)); (case aL => have h1_ := HLen.out; have h2_ := HBd.out; omega); intro v1_ w16 ho_ hb_ hg_ hat_; rw [← HN.out] at ho_; have HL2 := Aside0.mk (LS.appended HD.out ho_ hb_ hg_); clear ho_ hb_ hg_ hat_))
                      exact ⟨⟨q + 1, by omega, by go_num, HL2⟩, by simp [intOf]; omega⟩
                · obtain rfl : q = m := by omega
                  have HE := Aside0.mk (exList_row t n q p)
                  have lqI : ¬ (q : Int) < (q : Int) := by omega
                  go_wp2_with fail
                  exact ⟨⟨p + 1, by omega, by go_num, ⟨by rw [HE.out]; exact HL.out⟩⟩, by simp [intOf]; omega⟩
            · obtain rfl : p = n := by omega
              have lpI : ¬ (p : Int) < (p : Int) := by omega
              obtain ⟨Ao, co, eo⟩ := Kd.R_slice HL.out.r
              subst eo
              have HTb := Aside0.mk HL.out.tb
              obtain ⟨-, hco, hrd⟩ := Kd.R_reads' HL.out.r
              have HRd := Aside0.mk hrd
              have HCo := Aside0.mk hco
              clear hco hrd HL
              have hml := mexAll_le t p m (by omega) (by omega)
              obtain ⟨mk, hmk⟩ := mex_ev (exAll t p m) (by rw [exAll_len]; exact Nat.le_trans (Nat.mul_le_mul (show p ≤ 31 by omega) (show m ≤ 31 by omega)) (by decide)) (fun x hx => by obtain ⟨p', q', rfl⟩ := exList_mem t p m p 0 x hx; have h := ex3_in GR.out p m p' q'; omega)
              have HMk := Aside0.mk hmk
              clear hmk
              have hw29 : IntKind.u16.wrap ((mexN (exAll t p m) : Nat) : Int) = ((mexN (exAll t p m) : Nat) : Int) := by rw [IntKind.wrap_u16]; omega
              replace HR := Aside0.mk (show t.set (p * 32 + m) ((mexN (exAll t p m) : Nat) : Int) = rowT (tabT (b + 1) p) p (m + 1) from HR.out)
              change Aside0 (Kd.C (Kd.int .u16) wr Ao (exAll t p m).length (exAll t p m)) at HRd
              change Aside0 ((exAll t p m).length ≤ co) at HCo
              have p32 : (p : Int) < 32 := by omega
              rw [show exList t p m p 0 = exAll t p m from rfl]
              generalize exAll t p m = l at HRd HCo HMk hw29 HR hml ⊢
              generalize mexN l = mx at HMk hw29 HR hml
              go_wp2_with fail
              refine wp_region_held (S := fun _ => True) (by kernel_rfl) ?_
              change wpAnyH _ _ _ _ _ _ _ _ wr.drew
              replace HRd := Aside0.mk (Kd.C_drew HRd.out)
              replace HTb := Aside0.mk (show Tb w wr.drew t from HTb.out.drewN 1)
              refine wpAnyH_takeD (i := 0) (v := .int .u16 p) (some 60) rfl rfl (by kernel_rfl) (by kernel_rfl) (by kernel_rfl) (fun _ _ _ h => h) (.inl ⟨rfl, fun _ _ => by go_simp⟩) trivial ?_
              simp only [Act.put, List.setIfInBounds_toArray, List.set_cons_zero, List.set_cons_succ]
              refine wpAnyH_takeD (i := 1) (v := .int .u16 m) (some 61) rfl rfl (by kernel_rfl) (by kernel_rfl) (by kernel_rfl) (fun _ _ _ h => h) (.inl ⟨rfl, fun _ _ => by go_simp⟩) trivial ?_
              simp only [Act.put, List.setIfInBounds_toArray, List.set_cons_zero, List.set_cons_succ]
              refine wpAnyH_takeD (i := 2) (v := .slice Ao l.length co) (some 62) rfl rfl (by kernel_rfl) (by kernel_rfl) (by kernel_rfl) (fun _ _ _ h => h) (.inl ⟨rfl, fun _ _ => by go_simp⟩) trivial ?_
              simp only [Act.put, List.setIfInBounds_toArray, List.set_cons_zero, List.set_cons_succ]
              refine wpAnyH_takeD (i := 5) (v := .pointer (some ⟨w.heap.size, p * 32, none⟩)) (some 65) rfl rfl (by kernel_rfl) (by kernel_rfl) (by kernel_rfl) (fun _ _ _ h => h) (.inl ⟨rfl, fun _ _ => by go_simp⟩) trivial ?_
              simp only [Act.put, List.setIfInBounds_toArray, List.set_cons_zero, List.set_cons_succ]
              refine wpAnyH_ready (rs := [3]) (by kernel_rfl) (by simp) (AllReadyH.cons rfl (fun K_ hK_ => ?_) AllReadyH.nil)
              go_simp
              go_at_call 44
              refine (QFnExactExcludedBy.impl_mex.calls mk Ao co l mx _ HRd.out HCo.out HMk.out).mono ?_
              rintro e_ w0_ ⟨rfl, hb_⟩
              replace HTb := Aside0.mk (HTb.out.step hb_)
              clear hb_
              refine hK_.out _ _ trivial (fun _ => ?_)
              clear hK_ K_
              try simp only [Act.put, List.setIfInBounds_toArray, List.set_cons_zero, List.set_cons_succ]
              refine wpAnyH_takeD (i := 4) (v := .int .u16 (mx : Int)) (some 64) rfl rfl (by kernel_rfl) (by kernel_rfl) (by kernel_rfl) (fun _ _ _ h => h) (.inl ⟨rfl, fun _ _ => by go_simp⟩) trivial ?_
              simp only [Act.put, List.setIfInBounds_toArray, List.set_cons_zero, List.set_cons_succ]
              refine wpAnyH_takeD (i := 6) (v := .pointer (some ⟨w.heap.size, p * 32 + m, none⟩)) (some 66) rfl rfl (by kernel_rfl) (by kernel_rfl) (by kernel_rfl) (fun _ _ _ h => h) (.inl ⟨rfl, fun _ _ => by go_simp⟩) trivial ?_
              simp only [Act.put, List.setIfInBounds_toArray, List.set_cons_zero, List.set_cons_succ]
              refine wpAnyH_ready (rs := [7]) (by kernel_rfl) (by simp) (AllReadyH.cons rfl (fun K_ hK_ => ?_) AllReadyH.nil)
              have c1 := HTb.out.cell (p * 32 + m) (by rw [GR.out.len]; omega)
              have cf := HTb.out.frozen (p * 32 + m)
              go_simp
              refine hK_.out _ _ trivial (fun _ => ?_)
              clear hK_ K_
              try simp only [Act.put, List.setIfInBounds_toArray, List.set_cons_zero, List.set_cons_succ]
              refine wpAnyH_done (by kernel_rfl) ?_ _
              have HT2 := Aside0.mk (HTb.out.set (p * 32 + m) (mx : Int))
              rw [HR.out] at HT2
              go_wp2_with fail
              exact ⟨⟨m + 1, by omega, by go_num, HT2⟩, by simp [intOf]; omega⟩
        · obtain rfl : m = b + 1 := by omega
          have lmI : ¬ ((b + 1 : Nat) : Int) < (b : Int) + 1 := by omega
          go_wp2_with fail
          exact ⟨⟨n + 1, by omega, by go_num, HX⟩, by simp [intOf]; omega⟩
    · obtain rfl : n = a + 1 := by omega
      have lnI : ¬ ((a + 1 : Nat) : Int) < (a : Int) + 1 := by omega
      have c1 := HX.out.cell (a * 32 + b) (by rw [(good_tabT (b + 1) (by omega) (a + 1) (by omega)).len]; omega)
      generalize hx : (tabT (b + 1) (a + 1)).getD (a * 32 + b) 0 = x at c1
      have HXX := Aside0.mk hx
      clear hx
      have a32 : (a : Int) < 32 := by omega
      have b32 : (b : Int) < 32 := by omega
      go_wp2_with fail
      go_ret2
      have hq := HXX.out
      rw [List.getD_eq_getElem?_getD] at hq
      exact ⟨by rw [hq]; rfl, HX.out.hb⟩
end Go.Proofs.Ytjffoemohcebjaa.Tx
