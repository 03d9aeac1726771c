/- TimesByExclusion, the reference's: it fills the table and looks one cell up. The numbers are at most 31. -/
import Derived.Test.YtjffoemohcebjaaTx1
import Derived.Test.YtjffoemohcebjaaMx15
set_option linter.unusedVariables false
set_option linter.unusedSimpArgs false
namespace Go.Proofs.Ytjffoemohcebjaa.Tx
open Go.RowKit Go.Proofs.Ytjffoemohcebjaa.Lib Go.Proofs.Ytjffoemohcebjaa.Arr Go.Proofs.Ytjffoemohcebjaa.Mx Go.Proofs.YtjffoemohcebjaaW.PrintWords Go.Proofs.YtjffoemohcebjaaW.PrintLast

@[irreducible] def cu (l : List Int) : Array Value := (l.map (Value.int .u16)).toArray
theorem cu_size (l : List Int) : (cu l).size = l.length := by unfold cu; simp
theorem cu_get (l : List Int) (j : Nat) : (cu l)[j]? = (l[j]?).map (Value.int .u16) := by unfold cu; simp
theorem cu_all (l : List Int) : (cu l).all (·.oneCell') = true := by
  rw [Array.all_eq_true_iff_forall_mem]
  intro x hx
  unfold cu at hx
  simp only [List.mem_toArray, List.mem_map] at hx
  obtain ⟨y, _, rfl⟩ := hx
  rfl
theorem cu_set (l : List Int) (j : Nat) (x : Int) : (cu l).setIfInBounds j (.int .u16 x) = cu (l.set j x) := by
  apply Array.ext_getElem?
  intro i
  rw [Array.getElem?_setIfInBounds, cu_get, cu_get, List.getElem?_set]
  by_cases h : j = i
  · subst h
    simp only [if_true, cu_size]
    split <;> simp
  · simp [h]
def z1024 : List Int := List.replicate 1024 0
theorem cu_z : cu z1024 = Array.replicate 1024 (.int .u16 0) := by
  unfold cu z1024
  rw [List.map_replicate]
  apply Array.ext'
  simp
@[irreducible] def flB (l : List Int) : Array Value := ((List.range 1024).map fun j : Nat => Value.bool (decide ((j : Int) ∈ l))).toArray
theorem flB_size (l : List Int) : (flB l).size = 1024 := by unfold flB; rw [List.size_toArray, List.length_map, List.length_range]
theorem flB_get (l : List Int) (j : Nat) (h : j < 1024) : (flB l)[j]? = some (.bool (decide ((j : Int) ∈ l))) := by
  unfold flB
  rw [List.getElem?_toArray, List.getElem?_map, List.getElem?_range h]
  rfl
theorem flB_all (l : List Int) : (flB l).all (·.oneCell') = true := by
  rw [Array.all_eq_true_iff_forall_mem]
  intro x hx
  unfold flB at hx
  rw [List.mem_toArray, List.mem_map] at hx
  obtain ⟨y, _, rfl⟩ := hx
  rfl
theorem flB_set (l : List Int) (x : Nat) (h : x < 1024) : (flB l).setIfInBounds x (.bool true) = flB (l ++ [(x : Int)]) := by
  apply Array.ext_getElem?
  intro i
  rw [Array.getElem?_setIfInBounds]
  by_cases hi : i < 1024
  · rw [flB_get l i hi, flB_get _ i hi]
    by_cases e : x = i
    · subst e
      rw [if_pos rfl, flB_size, if_pos h]
      simp
    · rw [if_neg e]
      have : ¬ ((i : Int) = (x : Int)) := by omega
      simp [this]
  · rw [if_neg (by omega), Array.getElem?_eq_none (by rw [flB_size]; omega), Array.getElem?_eq_none (by rw [flB_size]; omega)]
theorem flB_nil : flB [] = Array.replicate 1024 (.bool false) := by
  apply Array.ext_getElem?
  intro i
  by_cases hi : i < 1024
  · rw [flB_get _ i hi, Array.getElem?_replicate, if_pos hi]
    simp
  · rw [Array.getElem?_eq_none (by rw [flB_size]; omega), Array.getElem?_eq_none (by simp; omega)]
theorem info69 : (Try.prog.info? 69).map (fun i => (i.zero, i.size)) = some (some (.agg (Array.replicate 1024 (.int .u16 0))), 1024) := by kernel_rfl
theorem info70 : (Try.prog.info? 70).map (fun i => (i.zero, i.size)) = some (some (.agg (Array.replicate 1024 (.bool false))), 1024) := by kernel_rfl
theorem zero69 (w : World) : (zeroValue 69).run Try.prog w = .ok (.agg (cu z1024)) w := by rw [cu_z]; exact (zero_of_info info69).1 w
theorem zero70 (w : World) : (zeroValue 70).run Try.prog w = .ok (.agg (flB [])) w := by rw [flB_nil]; exact (zero_of_info info70).1 w
theorem size69 : (Try.prog.info? 69).map (·.size) = some 1024 := (zero_of_info info69).2
theorem size70 : (Try.prog.info? 70).map (·.size) = some 1024 := (zero_of_info info70).2
theorem sizeOf_of {t : TypeId} {n : Nat} (h : (Try.prog.info? t).map (·.size) = some n) (w : World) : (sizeOf t).run Try.prog w = .ok n w := by
  cases hq : Try.prog.info? t with
  | none => simp [hq] at h
  | some i =>
    simp [hq] at h
    simp [sizeOf, typeInfo, hq, h]
theorem ne69 : (cu z1024 = #[]) = False := by
  apply eq_false
  intro h
  have h1 := congrArg Array.size h
  rw [cu_size] at h1
  have h2 : z1024.length = 1024 := List.length_replicate
  rw [h2] at h1
  cases h1
theorem ne70 : (flB [] = #[]) = False := by
  apply eq_false
  intro h
  have := congrArg Array.size h
  rw [flB_size] at this
  simp at this
theorem cuz_size : (cu z1024).size = 1024 := by rw [cu_size]; exact List.length_replicate
theorem store69 (v : World) (n : Nat) (hn : n = v.heap.size) : (storeCells ⟨n, 0, none⟩ (cu z1024).toList).run Try.prog (v.alloc (.cells (cu z1024) 69)) = .ok () (v.alloc (.cells (cu z1024) 69)) := by
  subst hn
  exact run_storeCells_new v 69 _ _ (size69.trans (congrArg some cuz_size.symm)) rfl (cu_all _)
theorem store70 (v : World) (n : Nat) (hn : n = v.heap.size) : (storeCells ⟨n, 0, none⟩ (flB []).toList).run Try.prog (v.alloc (.cells (flB []) 70)) = .ok () (v.alloc (.cells (flB []) 70)) := by
  subst hn
  exact run_storeCells_new v 70 _ _ (size70.trans (congrArg some (flB_size []).symm)) rfl (flB_all _)
theorem u16_next {n : Nat} (hn : n ≤ 2000) : IntKind.u16.wrap ((n : Int) + 1) = (n : Int) + 1 := by
  rw [IntKind.wrap_u16]
  omega
/-- The table's block. -/
structure Tb (w w' : World) (t : List Int) : Prop where
  hb : Below w.heap.size w w'
  hg : w'.heap[w.heap.size]? = some (.cells (cu t) 69)
theorem Tb.start (w : World) (t : List Int) : Tb w (w.alloc (.cells (cu t) 69)) t := ⟨below_alloc (Below.refl _ _) _, heap_at _ _ _ rfl⟩
theorem Tb.size {w w' t} (h : Tb w w' t) : w.heap.size < w'.heap.size := (Array.getElem?_eq_some_iff.1 h.hg).1
theorem Tb.step {w w' t w2} (h : Tb w w' t) (k : Below w'.heap.size w' w2) : Tb w w2 t := ⟨h.hb.trans (k.mono (Nat.le_of_lt h.size)), keep_step h.hg k⟩
theorem Tb.drewN {w w' t} (h : Tb w w' t) (n : Nat) : Tb w (w'.drewN n) t := ⟨pw_below_drewN h.hb n, h.hg⟩
theorem Tb.cell {w w' t} (h : Tb w w' t) (j : Nat) (hj : j < t.length) : w'.cell? ⟨w.heap.size, j, none⟩ = some (.int .u16 (t.getD j 0)) := by
  rw [cell_of_row _ _ _ _ _ _ h.hg, cu_get, List.getD_eq_getElem?_getD, List.getElem?_eq_getElem hj]
  rfl
theorem Tb.frozen {w w' t} (h : Tb w w' t) (j : Nat) : w'.frozen? ⟨w.heap.size, j, none⟩ = false := frozen_of_row _ _ _ _ _ h.hg
theorem Tb.set {w w' t} (h : Tb w w' t) (j : Nat) (v : Int) : Tb w (w'.setCell ⟨w.heap.size, j, none⟩ (.int .u16 v)) (t.set j v) :=
  ⟨h.hb.setCell (Nat.le_refl _) _, by rw [heap_setCell_same _ _ _ _ _ _ h.hg, cu_set]⟩
/-- The table's block and the block of flags. -/
structure Sn (w w' : World) (t : List Int) (n : Nat) (l : List Int) : Prop where
  tb : Tb w w' t
  hn : w.heap.size < n
  hs : w'.heap[n]? = some (.cells (flB l) 70)
theorem Sn.start {w w' t} (h : Tb w w' t) : Sn w (w'.alloc (.cells (flB []) 70)) t w'.heap.size [] := ⟨h.step (below_alloc (Below.refl _ _) _), h.size, heap_at _ _ _ rfl⟩
theorem Sn.drewN {w w' t n l} (h : Sn w w' t n l) (m : Nat) : Sn w (w'.drewN m) t n l := ⟨h.tb.drewN m, h.hn, h.hs⟩
theorem Sn.flag {w w' t n l} (h : Sn w w' t n l) (v : Nat) (hv : v < 1024) : w'.cell? ⟨n, v, none⟩ = some (.bool (decide ((v : Int) ∈ l))) := by
  rw [cell_of_row _ _ _ _ _ _ h.hs, flB_get _ _ hv]
theorem Sn.mark {w w' t n l l'} (h : Sn w w' t n l) (v : Nat) (hv : v < 1024) (e : l ++ [(v : Int)] = l') : Sn w (w'.setCell ⟨n, v, none⟩ (.bool true)) t n l' :=
  have q := h.hn
  ⟨⟨h.tb.hb.setCell (Nat.le_of_lt q) _, by rw [heap_setCell_other _ _ _ _ (Nat.ne_of_lt q)]; exact h.tb.hg⟩, q, by rw [heap_setCell_same _ _ _ _ _ _ h.hs, flB_set _ _ hv, e]⟩
theorem Sn.set {w w' t n l} (h : Sn w w' t n l) (j : Nat) (v : Int) : Sn w (w'.setCell ⟨w.heap.size, j, none⟩ (.int .u16 v)) (t.set j v) n l :=
  ⟨h.tb.set j v, h.hn, by rw [heap_setCell_other _ _ _ _ (Nat.ne_of_gt h.hn)]; exact h.hs⟩
theorem set_zero (t : List Int) (j : Nat) (h : t.getD j 0 = 0) : t.set j 0 = t := by
  apply List.ext_getElem?
  intro i
  rw [List.getElem?_set]
  by_cases e : j = i
  · subst e
    rw [if_pos rfl]
    by_cases hl : j < t.length
    · rw [if_pos hl]
      rw [List.getD_eq_getElem?_getD, List.getElem?_eq_getElem hl] at h
      rw [List.getElem?_eq_getElem hl]
      exact congrArg some h.symm
    · rw [if_neg hl, List.getElem?_eq_none (by omega)]
  · rw [if_neg e]
def valAt (w : World) (a : Addr) : Nat := match w.cell? a with
  | some (.int _ v) => v.toNat
  | _ => 0
theorem valAt_eq {w : World} {a : Addr} {k : IntKind} {v : Nat} (h : w.cell? a = some (.int k v)) : valAt w a = v := by simp [valAt, h]
set_option maxHeartbeats 3200000 in
set_option maxRecDepth 100000 in
theorem specTimes_in (a b : Nat) (ha : a ≤ 31) (hb : b ≤ 31) (w : World) :
    Calls Try.prog 29 #[.int .u16 a, .int .u16 b] w fun e w' => e = .returned (.tuple #[.int .u16 ((tabT (b + 1) (a + 1)).getD (a * 32 + b) 0), .int .i64 0]) ∧ Below w.heap.size w w' := by
  have hA : ¬ (31 : Int) < (a : Int) := by omega
  have hB : ¬ (31 : Int) < (b : Int) := by omega
  have HX := Aside0.mk (Tb.start w z1024)
  have hz := zero69
  have hne := ne69
  have hst := store69
  have hsz := cuz_size
  have hso := sizeOf_of size69
  go_enter Try.func29, Try.ntmps29
  go_wp2_with fail
  clear hz hne hst hsz hso
  have hz := zero70
  have hne := ne70
  have hst := store70
  have hsz := flB_size []
  have hso := sizeOf_of size70
  go_loopw [7] (fun i w' => ∃ n : Nat, n ≤ a + 1 ∧ i = .int .u16 n ∧ Aside0 (Tb w w' (tabT (b + 1) n))) (fun i w' => 40 - (intOf i).toNat)
  case atStart => exact ⟨0, by omega, rfl, HX⟩
  case round =>
    clear HX
    obtain ⟨n, hn, rfl, HX⟩ := hrel
    have hw16 := u16_next (n := n) (by omega)
    by_cases hln : n ≤ a
    · have lnI : (n : Int) ≤ (a : Int) := by omega
      have n32 : (n : Int) < 32 := by omega
      have GT := Aside0.mk (good_tabT (b + 1) (by omega) n (by omega))
      go_wp2_with fail
      go_loopw [8] (fun k w' => ∃ m : Nat, m ≤ b + 1 ∧ k = .int .u16 m ∧ Aside0 (Tb w w' (rowT (tabT (b + 1) n) n m))) (fun k w' => 40 - (intOf k).toNat)
      case atStart => exact ⟨0, by omega, rfl, HX⟩
      case round =>
        clear HX
        obtain ⟨m, hm, rfl, HX⟩ := hrel
        have hv16 := u16_next (n := m) (by omega)
        by_cases hlm : m ≤ b
        · have lmI : (m : Int) ≤ (b : Int) := by omega
          have m32 : (m : Int) < 32 := by omega
          have GR := Aside0.mk (good_rowT GT.out (by omega) m (by omega))
          have HR := Aside0.mk (show stepT (rowT (tabT (b + 1) n) n m) n m = rowT (tabT (b + 1) n) n (m + 1) from rfl)
          generalize rowT (tabT (b + 1) n) n m = t at HX GR HR
          have HSn := Aside0.mk (Sn.start HX.out)
          go_wp2_with fail
          generalize wr.heap.size = nn at HSn ⊢
          go_loopw [10] (fun x w' => ∃ p : Nat, p ≤ n ∧ x = .int .u16 p ∧ Aside0 (Sn w w' t nn (exList t n m p 0))) (fun x w' => 40 - (intOf x).toNat)
          case atStart => exact ⟨0, by omega, rfl, HSn⟩
          case round =>
            clear HSn
            obtain ⟨p, hp, rfl, HSn⟩ := hrel
            have hx16 := u16_next (n := p) (by omega)
            by_cases hlp : p < n
            · have lpI : (p : Int) < (n : Int) := by omega
              have p32 : (p : Int) < 32 := by omega
              go_wp2_with fail
              go_loopw [11] (fun y w' => ∃ q : Nat, q ≤ m ∧ y = .int .u16 q ∧ Aside0 (Sn w w' t nn (exList t n m p q))) (fun y w' => 40 - (intOf y).toNat)
              case atStart => exact ⟨0, by omega, rfl, HSn⟩
              case round =>
                clear HSn
                obtain ⟨q, hq, rfl, HSn⟩ := hrel
                have hy16 := u16_next (n := q) (by omega)
                by_cases hlq : q < m
                · have lqI : (q : Int) < (m : Int) := by omega
                  have q32 : (q : Int) < 32 := by omega
                  have HN := Aside0.mk (exList_next t n m p q)
                  obtain ⟨e1, e2⟩ := ex3_in GR.out n m p q
                  obtain ⟨v, hv⟩ := Int.eq_ofNat_of_zero_le e1
                  have c1 := HSn.out.tb.cell (p * 32 + m) (by rw [GR.out.len]; omega)
                  have c2 := HSn.out.tb.cell (n * 32 + q) (by rw [GR.out.len]; omega)
                  have c3 := HSn.out.tb.cell (p * 32 + q) (by rw [GR.out.len]; omega)
                  have hV : Go.bits .xor .u16 (Go.bits .xor .u16 (t.getD (p * 32 + m) 0) (t.getD (n * 32 + q) 0)) (t.getD (p * 32 + q) 0) = (v : Int) := hv
                  have v24 : (v : Int) < 1024 := by omega
                  have hvN : v < 1024 := by omega
                  rw [hv] at HN
                  have gs := HSn.out.flag v hvN
                  have gf := frozen_of_row _ _ v _ _ HSn.out.hs
                  generalize t.getD (p * 32 + m) 0 = x1 at c1 hV
                  generalize t.getD (n * 32 + q) 0 = x2 at c2 hV
                  generalize t.getD (p * 32 + q) 0 = x3 at c3 hV
                  generalize decide ((v : Int) ∈ exList t n m p q) = bb at gs
                  clear hv e1 e2
                  go_wp2_with fail
                  refine wp_region_still_tail 18 (by kernel_rfl) (by kernel_rfl) ?_
                  simp only [List.take_succ_cons, List.take_zero, List.drop_succ_cons, List.drop_zero]
                  repeat still_step
                  refine wpStill_nil ?_
                  change wpList _ _ _ _ _ (World.drew _)
                  go_wp2_with fail
                  exact ⟨⟨q + 1, by omega, by go_num, ⟨(HSn.out.mark v hvN HN.out.symm).drewN 1⟩⟩, by simp [intOf]; omega⟩
                · obtain rfl : q = m := by omega
                  have HE := Aside0.mk (exList_row t n q p)
                  have lqI : ¬ (q : Int) < (q : Int) := by omega
                  go_wp2_with fail
                  exact ⟨⟨p + 1, by omega, by go_num, ⟨by rw [HE.out]; exact HSn.out⟩⟩, by simp [intOf]; omega⟩
            · obtain rfl : p = n := by omega
              have lpI : ¬ (p : Int) < (p : Int) := by omega
              have HM := Aside0.mk (mexAll_le t p m (by omega) (by omega))
              have HZ := Aside0.mk (set_zero t (p * 32 + m) (GR.out.zer p m (by omega) (.inr ⟨rfl, Nat.le_refl _⟩)))
              have HLn := Aside0.mk (show p * 32 + m < t.length by rw [GR.out.len]; omega)
              have HSa := Aside0.mk (show Sn w wr t nn (exAll t p m) from HSn.out)
              clear HSn
              go_wp2_with fail
              go_loopw [] (fun w' => ∃ v : Nat, v ≤ mexN (exAll t p m) ∧ Aside0 (Sn w w' (t.set (p * 32 + m) (v : Int)) nn (exAll t p m))) (fun w' => 2000 - valAt w' ⟨w.heap.size, p * 32 + m, none⟩)
              case atStart => exact ⟨0, by omega, ⟨by rw [show ((0 : Nat) : Int) = 0 from rfl, HZ.out]; exact HSa.out⟩⟩
              case round =>
                clear HSa
                obtain ⟨v, hv, HSv⟩ := hrel
                have hm961 := HM.out
                have v24 : (v : Int) < 1024 := by omega
                have c1 := HSv.out.tb.cell (p * 32 + m) (by rw [List.length_set]; exact HLn.out)
                rw [getD_set _ _ _ _ HLn.out, if_pos rfl] at c1
                have fl := HSv.out.flag v (by omega)
                have cf := HSv.out.tb.frozen (p * 32 + m)
                have HV := Aside0.mk (valAt_eq c1)
                by_cases hin : (v : Int) ∈ exAll t p m
                · have hlt : v < mexN (exAll t p m) := by
                    rcases Nat.lt_or_ge v (mexN (exAll t p m)) with h | h
                    · exact h
                    · obtain rfl : v = mexN (exAll t p m) := by omega
                      exact absurd hin (mexN_is _).1
                  have hz16 := u16_next (n := v) (by omega)
                  rw [decide_eq_true hin] at fl
                  have HLT := Aside0.mk hlt
                  clear hin hlt
                  go_wp2_with fail
                  refine wp_region_still_tail 8 (by kernel_rfl) (by kernel_rfl) ?_
                  simp only [List.take_succ_cons, List.take_zero, List.drop_succ_cons, List.drop_zero]
                  repeat still_step
                  refine wpStill_nil ?_
                  change wpList _ _ _ _ _ (World.drew _)
                  go_wp2_with fail
                  have HSw := HSv.out.set (p * 32 + m) ((v : Int) + 1)
                  rw [List.set_set] at HSw
                  have c2 := HSw.tb.cell (p * 32 + m) (by rw [List.length_set]; exact HLn.out)
                  rw [getD_set _ _ _ _ HLn.out, if_pos rfl, show (v : Int) + 1 = ((v + 1 : Nat) : Int) by omega] at c2
                  have hv2 := valAt_eq c2
                  refine ⟨⟨v + 1, HLT.out, ⟨?_⟩⟩, ?_⟩
                  · rw [show ((v + 1 : Nat) : Int) = (v : Int) + 1 by omega]
                    exact HSw.drewN 1
                  · have hv1 := HV.out
                    have hlt := HLT.out
                    have hmm := HM.out
                    change 2000 - valAt (wr.setCell ⟨w.heap.size, p * 32 + m, none⟩ (.int .u16 ((v : Int) + 1))) ⟨w.heap.size, p * 32 + m, none⟩ < 2000 - valAt wr ⟨w.heap.size, p * 32 + m, none⟩
                    rw [show (v : Int) + 1 = ((v + 1 : Nat) : Int) by omega, hv2, hv1]
                    omega
                · have hvm : v = mexN (exAll t p m) := by
                    rcases Nat.lt_or_ge v (mexN (exAll t p m)) with h | h
                    · exact absurd ((mexN_is _).2 v h) hin
                    · omega
                  rw [decide_eq_false hin] at fl
                  have HVM := Aside0.mk hvm
                  clear hin hvm
                  go_wp2_with fail
                  exact ⟨⟨m + 1, by omega, by go_num, ⟨by rw [← HR.out]; unfold stepT; rw [← HVM.out]; exact HSv.out.tb⟩⟩, by simp [intOf]; omega⟩
        · obtain rfl : m = b + 1 := by omega
          go_wp2_with fail
          exact ⟨⟨n + 1, by omega, by go_num, HX⟩, by simp [intOf]; omega⟩
    · obtain rfl : n = a + 1 := by omega
      have c1 := HX.out.cell (a * 32 + b) (by rw [(good_tabT (b + 1) (by omega) (a + 1) (by omega)).len]; omega)
      generalize hx : (tabT (b + 1) (a + 1)).getD (a * 32 + b) 0 = x at c1
      have HXX := Aside0.mk hx
      clear hx
      have a32 : (a : Int) < 32 := by omega
      have b32 : (b : Int) < 32 := by omega
      go_wp2_with fail
      go_ret2
      exact ⟨by rw [HXX.out]; rfl, HX.out.hb⟩
end Go.Proofs.Ytjffoemohcebjaa.Tx
