/- ReadMatrix, of the reference. No condition but what the split and the rows' reading answer. -/
import Derived.Test.YtdgglnjegkmamaaDoorMr0
import Derived.Test.YtdgglnjegkmamaaDoorQFnExactReadMatrixx2
set_option linter.unusedVariables false
set_option linter.unusedSimpArgs false
namespace Go.Proofs.YtdgglnjegkmamaaDoor.Mx
open Go.RowKit Go.Proofs.YtdgglnjegkmamaaDoor.Arr Go.Proofs.YtdgglnjegkmamaaDoorW.PrintWords Go.Proofs.YtdgglnjegkmamaaDoorW.PrintLast Go.Proofs.YtdgglnjegkmamaaDoorW.PrintMore Go.Proofs.YtdgglnjegkmamaaDoor.QFnExactReadMatrix

set_option maxHeartbeats 800000 in
set_option maxRecDepth 100000 in
theorem specRM_long (k : Nat) (s : ByteArray) (ws : List ByteArray) (hS : spec_l01Split.f k s 59 = some ws) (hlen : 6 < ws.length) (w : World) :
    Calls Tryd.prog 9 #[.string s] w fun e w' => e = .returned (.tuple #[.agg (mat 0 0 z36), .int .i64 5]) ∧ Below w.heap.size w w' := by
  have HP := Aside0.mk hS
  have HX := Aside0.mk (Bx.start w (.cells (mat 0 0 z36) 33))
  have hz := zero33
  have hne := zne
  have hzs := zsize
  have hb0 := built0
  have HS := Aside0.mk hzs
  have hl2 : (6 : Int) < (ws.length : Int) := by omega
  clear hS
  go_enter Tryd.func9, Tryd.ntmps9
  go_wp2_with (first
    | (go_at_call 20; refine (spec_l01Split.calls k s 59 ws _ HP.out).mono ?_; rintro e w1 ⟨v, rfl, hR, hB⟩; obtain ⟨A1, c1, e1⟩ := Kd.R_slice hR; subst e1; replace HX := Aside0.mk (HX.out.step hB); clear hR hB)
    | (refine wpList_store_row rfl 33 _ _ rfl w.heap.size _ rfl rfl 33 _ HX.out.hg (size33.trans (congrArg some HS.out.symm)) rfl (mat_all _ _ _) ?_))
  refine bodyPost_ret (results_pair rfl _ _ w.heap.size 33 _ (0, 0) _ _ rfl rfl (heap_setRow_same HX.out.hg) Tryd.underlying33 rfl (size33.trans (congrArg some HS.out.symm))) rfl ⟨rfl, ?_⟩
  exact below_setRow HX.out.hb (by omega) _
/-- A row's list, beside the matrix's box. -/
structure LS (w' : World) (g b : Nat) (v : Value) (l : List Int) : Prop where
  hL : Kd.R (Kd.int .u16) 29 w' b (fun k => k ≠ g) v l
theorem LS.set {w' : World} {g b : Nat} {v : Value} {l : List Int} (h : LS w' g b v l) (o : Nat) (x : Value) : LS (w'.setCell ⟨g, o, none⟩ x) g b v l := ⟨Kd.R_step h.hL (fun k hk _ => heap_setCell_other _ _ _ _ (fun e => hk e))⟩
theorem LS.drewN {w' : World} {g b : Nat} {v : Value} {l : List Int} (h : LS w' g b v l) (n : Nat) : LS (w'.drewN n) g b v l := ⟨Kd.R_drewN h.hL n⟩
theorem LS.start {w' : World} {g b : Nat} {v : Value} {l : List Int} (h : Kd.R (Kd.int .u16) 29 w' b (fun _ => True) v l) (hg : g < b) : LS w' g b v l := ⟨Kd.R_mono (Kd.R_bound h) (fun k hk e => by have := hk.2.1; omega)⟩
/-- Within the loops: what stood ahead of them, and the matrix's box. -/
structure RS (w1 w' : World) (n : Int) (c : Int) (M : List Int) : Prop where
  hB : Below w1.heap.size w1 w'
  hG : w'.heap[w1.heap.size]? = some (.cells (mat n c M) 33)
theorem RS.lt {w1 w' n c M} (h : RS w1 w' n c M) : w1.heap.size < w'.heap.size := (Array.getElem?_eq_some_iff.1 h.hG).1
theorem RS.start (w1 : World) (n : Int) : RS w1 (w1.alloc (.cells (mat n 0 z36) 33)) n 0 z36 := ⟨below_alloc (Below.refl _ _) _, heap_at _ _ _ rfl⟩
theorem RS.step {w1 w' w2 : World} {n c : Int} {M : List Int} (h : RS w1 w' n c M) (hb : Below w'.heap.size w' w2) : RS w1 w2 n c M :=
  ⟨h.hB.trans (hb.mono (Nat.le_of_lt h.lt)), (hb.block _ h.lt).trans h.hG⟩
theorem RS.cols {w1 w' : World} {n c : Int} {M : List Int} (h : RS w1 w' n c M) (x : Int) : RS w1 (w'.setCell ⟨w1.heap.size, 1, none⟩ (.int .i8 x)) n x M :=
  ⟨h.hB.setCell (Nat.le_refl _) _, by rw [heap_setCell_same _ _ _ _ _ _ h.hG, mat_set1]⟩
theorem RS.set {w1 w' : World} {n c : Int} {M M' : List Int} (h : RS w1 w' n c M) (i k : Nat) (x : Int) (e : M.set (i * 6 + k) x = M') : RS w1 (w'.setCell ⟨w1.heap.size, 2 + i * 6 + k, none⟩ (.int .u16 x)) n c M' :=
  ⟨h.hB.setCell (Nat.le_refl _) _, by rw [heap_setCell_same _ _ _ _ _ _ h.hG, Nat.add_assoc, mat_set2, e]⟩
theorem RS.drewN {w1 w' : World} {n c : Int} {M : List Int} (h : RS w1 w' n c M) (m : Nat) : RS w1 (w'.drewN m) n c M := ⟨pw_below_drewN h.hB m, h.hG⟩
set_option maxHeartbeats 3200000 in
set_option maxRecDepth 100000 in
theorem specRM (k : Nat) (s : ByteArray) (ws : List ByteArray) (L : Nat → Option (List Int)) (hS : spec_l01Split.f k s 59 = some ws) (hlen : ws.length ≤ 6)
    (hL : ∀ i, i < ws.length → spec_l01ReadList.f k (rdOf ByteArray.empty ws (i : Int)) = some (match L i with | some l => (l, true) | none => ([], false))) (res : Option (Int × List Int)) (hres : mxAll L ws.length 0 0 z36 = res) (w : World) :
    Calls Tryd.prog 9 #[.string s] w fun e w' => e = .returned (.tuple #[.agg (resM ws.length res), .int .i64 (resE res)]) ∧ Below w.heap.size w w' := by
  have HP := Aside0.mk hS
  have HL := Aside0.mk hL
  have HR := Aside0.mk hres
  have HN := Aside0.mk hlen
  have HX := Aside0.mk (Bx.start w (.cells (mat 0 0 z36) 33))
  obtain ⟨Z, M, HZ, HM, hz, hZ0, hbu, hst, hst', hsz, hsZ⟩ := lit_names1 ws.length
  have hl2 : ¬ (6 : Int) < (ws.length : Int) := by omega
  have hw8 := i8_small ws.length hlen
  rw [← HZ.out] at HX
  clear hS hL hres hlen
  go_enter Tryd.func9, Tryd.ntmps9
  go_wp2_with (first
    | (go_at_call 20; refine (spec_l01Split.calls k s 59 ws _ HP.out).mono ?_; rintro e w1 ⟨v, rfl, hR, hB⟩; obtain ⟨A1, c1, e1⟩ := Kd.R_slice hR; subst e1; have HC := Aside0.mk (Kd.R_reads' hR).2.2; replace HX := Aside0.mk (HX.out.step hB); clear hR hB))
  have hZ := HZ.out
  have hM := HM.out
  clear HZ HM hz hZ0 hbu hst hst' hsz hsZ
  subst hZ
  subst hM
  have HB0 := Aside0.mk (RS.start w1 ws.length)
  generalize w1.alloc (.cells (mat (ws.length : Int) 0 z36) 33) = wz at HB0 ⊢
  have hb0 := built0
  have HS38 := Aside0.mk zsize
  go_loopw [6] (fun v6 w' => ∃ (i : Nat) (c : Int) (M : List Int), i ≤ ws.length ∧ v6 = .int .i64 i ∧ Aside0 (mxAll L (ws.length - i) i c M = res) ∧ Aside0 (M.length = 36) ∧ (0 ≤ c ∧ c ≤ 6) ∧ Aside0 (RS w1 w' ws.length c M)) (fun v6 w' => ws.length - (intOf v6).toNat)
  case atStart => exact ⟨0, 0, z36, Nat.zero_le _, rfl, HR, ⟨rfl⟩, by omega, HB0⟩
  case round =>
    clear HB0 HR
    obtain ⟨i, c, M, hi, rfl, HR, HM, hc6, HI⟩ := hrel
    by_cases hlt : i < ws.length
    · have hR := HR.out
      rw [show ws.length - i = (ws.length - i - 1) + 1 by omega] at hR
      unfold mxAll at hR
      have hlt2 : (i : Int) < (ws.length : Int) := by omega
      obtain ⟨ad, e1, hs⟩ := Kd.at_string (Kd.C_below HC.out HI.out.hB) (i : Int) (by omega) (by omega)
      subst e1
      have hs2 : wr.cell? (ad.add i) = some (.string (rdOf ByteArray.empty ws (i : Int))) := hs
      have hcall := HL.out i hlt
      cases hLi : L i with
      | none =>
        rw [hLi] at hR hcall
        have HE := Aside0.mk (show none = res from hR)
        have HCL := Aside0.mk (show spec_l01ReadList.f k (rdOf ByteArray.empty ws (i : Int)) = some ([], false) from hcall)
        clear hR hcall hLi HR
        go_wp2_with (first
          | (go_at_call 21; refine (spec_l01ReadList.calls k _ [] false _ HCL.out).mono ?_; rintro e w2 ⟨v2, rfl, hR2, hB2⟩; have HX2 := Aside0.mk (HX.out.step (HI.out.step hB2).hB); clear hR2 hB2)
          | (refine wpList_store_row rfl 33 (.tmp 2) (.tmp 54) rfl w.heap.size (mat 0 0 z36) rfl rfl 33 (mat 0 0 z36) HX2.out.hg (size33.trans (congrArg some HS38.out.symm)) rfl (mat_all _ _ _) ?_))
        rw [← HE.out]
        refine bodyPost_ret (results_pair rfl _ _ w.heap.size 33 _ (0, 0) _ _ rfl rfl (heap_setRow_same HX2.out.hg) Tryd.underlying33 rfl (size33.trans (congrArg some HS38.out.symm))) rfl ⟨rfl, ?_⟩
        exact below_setRow HX2.out.hb (by omega) _
      | some l =>
        rw [hLi] at hR hcall
        have HCL := Aside0.mk (show spec_l01ReadList.f k (rdOf ByteArray.empty ws (i : Int)) = some (l, true) from hcall)
        clear hcall hLi HR
        unfold mxStep at hR
        simp only at hR
        have hwc : IntKind.i64.wrap c = c := by rw [i64_w]; unfold wrap64; omega
        by_cases h1 : 1 ≤ l.length ∧ l.length ≤ 6
        · have hin : inB (l.length : Int) 1 6 = true := inB_iff.2 (by omega)
          by_cases h2 : i = 0 ∨ (l.length : Int) = c
          · rw [if_pos ⟨h1, h2⟩] at hR
            have HR2 := Aside0.mk (show mxAll L (ws.length - i - 1) (i + 1) (l.length : Int) (putQ M l i l.length) = res from hR)
            have h2b : ¬ 0 < i ∨ (0 < i ∧ c = (l.length : Int)) := by omega
            have hw8l := i8_small l.length h1.2
            have hi6 : (i : Int) < 6 := by have := HN.out; omega
            have HLL := Aside0.mk h1
            clear hR h2 h1
            rcases h2b with hb | ⟨hb, rfl⟩
            all_goals
              go_wp2_with (first
                | (go_at_call 21; refine (spec_l01ReadList.calls k _ l true _ HCL.out).mono ?_; rintro e w2 ⟨v2, rfl, hR2, hB2⟩; obtain ⟨A2, c2, e2⟩ := Kd.R_slice hR2; subst e2; have HI2 := Aside0.mk (HI.out.step hB2); have HL2 := Aside0.mk (LS.start hR2 HI.out.lt); have hc1 := mat_cell1 HI2.out.hG; have hf1 : w2.frozen? ⟨w1.heap.size, 1, none⟩ = false := frozen_of_row _ _ _ _ _ HI2.out.hG; clear hR2 hB2)
                | (go_at_call 22; refine (l00In_any _ _ _ _).mono ?_; rw [hin]; rintro e w3 ⟨rfl, ⟨n3, rfl⟩⟩; have HI3 := Aside0.mk (HI2.out.drewN n3); have HL3 := Aside0.mk (HL2.out.drewN n3)))
            all_goals
              have HI4 := Aside0.mk (HI3.out.cols (l.length : Int))
              have HL4 := Aside0.mk (HL3.out.set 1 (.int .i8 (l.length : Int)))
              have hlt6 := HLL.out.2
              clear HI2 HL2 HI3 HL3 hc1 hf1 HI HCL hs hs2
              generalize (w2.drewN n3).setCell ⟨w1.heap.size, 1, none⟩ (.int .i8 (l.length : Int)) = wy at HI4 HL4 ⊢
              generalize wr.heap.size = bb at HL4
              go_loopw [9] (fun v9 w' => ∃ q : Nat, q ≤ l.length ∧ v9 = .int .i64 q ∧ Aside0 (RS w1 w' ws.length l.length (putQ M l i q)) ∧ Aside0 (LS w' w1.heap.size bb (.slice A2 l.length c2) l)) (fun v9 w' => l.length - (intOf v9).toNat)
              case atStart => exact ⟨0, Nat.zero_le _, rfl, ⟨by rw [putQ_zero]; exact HI4.out⟩, HL4⟩
              case round =>
                clear HI4 HL4
                obtain ⟨q, hq, rfl, HI4, HL4⟩ := hrel
                by_cases hqt : q < l.length
                · have hqt2 : (q : Int) < (l.length : Int) := by omega
                  have hq6 : (q : Int) < 6 := by omega
                  obtain ⟨ad2, e2, ca⟩ := Kd.at_int (Kd.R_reads' HL4.out.hL).2.2 (q : Int) (by omega) (by omega)
                  subst e2
                  have ca2 : wr.cell? (ad2.add q) = some (.int .u16 (l.getD q 0)) := ca
                  have hM2 := putQ_len M l i q HM.out (by omega) hq hlt6
                  have gy := mat_cell HI4.out.hG hM2 (i := i) (k := q) (by omega) (by omega)
                  have gf : wr.frozen? ⟨w1.heap.size, 2 + i * 6 + q, none⟩ = false := frozen_of_row _ _ _ _ _ HI4.out.hG
                  have HS := Aside0.mk (putQ_set M l i q HM.out (by omega) hqt hlt6)
                  clear ca hM2
                  generalize l.getD q 0 = x at ca2 HS
                  generalize (putQ M l i q).getD (i * 6 + q) 0 = y at gy
                  have ewq : wrap64 ((q : Int) + 1) = (q : Int) + 1 := by unfold wrap64; omega
                  have ewq2 : IntKind.i64.wrap ((q : Int) + 1) = (q : Int) + 1 := by rw [i64_w]; exact ewq
                  go_wp2_with fail
                  go_region
                  all_goals go_wp2_with fail
                  all_goals exact ⟨⟨q + 1, by omega, by go_num, (by first | exact ⟨HI4.out.set i q x HS.out⟩ | exact ⟨(HI4.out.set i q x HS.out).drewN 1⟩), (by first | exact ⟨HL4.out.set _ _⟩ | exact ⟨(HL4.out.set _ _).drewN 1⟩)⟩, by simp [intOf]; omega⟩
                · obtain rfl : q = l.length := by omega
                  go_wp2_with fail
                  exact ⟨⟨i + 1, _, _, by omega, by go_num, ⟨by rw [show ws.length - (i + 1) = ws.length - i - 1 by omega]; exact HR2.out⟩, ⟨putQ_len M l i l.length HM.out (by have := HN.out; omega) (Nat.le_refl _) hlt6⟩, by omega, HI4⟩, by simp [intOf]; omega⟩
          · rw [if_neg (fun h => h2 h.2)] at hR
            have HE := Aside0.mk (show none = res from hR)
            have hi0 : 0 < i := by omega
            have hne : ((l.length : Int) != c) = true := bne_iff_ne.mpr (by omega)
            clear hR h2
            go_wp2_with (first
              | (go_at_call 21; refine (spec_l01ReadList.calls k _ l true _ HCL.out).mono ?_; rintro e w2 ⟨v2, rfl, hR2, hB2⟩; obtain ⟨A2, c2, e2⟩ := Kd.R_slice hR2; subst e2; have HI2 := Aside0.mk (HI.out.step hB2); have HL2 := Aside0.mk (LS.start hR2 HI.out.lt); have hc1 := mat_cell1 HI2.out.hG; have hf1 : w2.frozen? ⟨w1.heap.size, 1, none⟩ = false := frozen_of_row _ _ _ _ _ HI2.out.hG; clear hR2 hB2)
              | (go_at_call 22; refine (l00In_any _ _ _ _).mono ?_; rw [hin]; rintro e w3 ⟨rfl, ⟨n3, rfl⟩⟩; have HI3 := Aside0.mk (HI2.out.drewN n3); have HL3 := Aside0.mk (HL2.out.drewN n3); have HX2 := Aside0.mk (HX.out.step HI3.out.hB))
              | (refine wpList_store_row rfl 33 (.tmp 2) (.tmp 54) rfl w.heap.size (mat 0 0 z36) rfl rfl 33 (mat 0 0 z36) HX2.out.hg (size33.trans (congrArg some HS38.out.symm)) rfl (mat_all _ _ _) ?_))
            rw [← HE.out]
            refine bodyPost_ret (results_pair rfl _ _ w.heap.size 33 _ (0, 0) _ _ rfl rfl (heap_setRow_same HX2.out.hg) Tryd.underlying33 rfl (size33.trans (congrArg some HS38.out.symm))) rfl ⟨rfl, ?_⟩
            exact below_setRow HX2.out.hb (by omega) _
        · have hin : inB (l.length : Int) 1 6 = false := by
            rw [Bool.eq_false_iff]
            intro e
            have := inB_iff.1 e
            omega
          rw [if_neg (fun h => h1 h.1)] at hR
          have HE := Aside0.mk (show none = res from hR)
          clear hR
          go_wp2_with (first
            | (go_at_call 21; refine (spec_l01ReadList.calls k _ l true _ HCL.out).mono ?_; rintro e w2 ⟨v2, rfl, hR2, hB2⟩; obtain ⟨A2, c2, e2⟩ := Kd.R_slice hR2; subst e2; have HI2 := Aside0.mk (HI.out.step hB2); have HL2 := Aside0.mk (LS.start hR2 HI.out.lt); have hc1 := mat_cell1 HI2.out.hG; have hf1 : w2.frozen? ⟨w1.heap.size, 1, none⟩ = false := frozen_of_row _ _ _ _ _ HI2.out.hG; clear hR2 hB2)
            | (go_at_call 22; refine (l00In_any _ _ _ _).mono ?_; rw [hin]; rintro e w3 ⟨rfl, ⟨n3, rfl⟩⟩; have HI3 := Aside0.mk (HI2.out.drewN n3); have HL3 := Aside0.mk (HL2.out.drewN n3); have HX2 := Aside0.mk (HX.out.step HI3.out.hB))
            | (refine wpList_store_row rfl 33 (.tmp 2) (.tmp 54) rfl w.heap.size (mat 0 0 z36) rfl rfl 33 (mat 0 0 z36) HX2.out.hg (size33.trans (congrArg some HS38.out.symm)) rfl (mat_all _ _ _) ?_))
          rw [← HE.out]
          refine bodyPost_ret (results_pair rfl _ _ w.heap.size 33 _ (0, 0) _ _ rfl rfl (heap_setRow_same HX2.out.hg) Tryd.underlying33 rfl (size33.trans (congrArg some HS38.out.symm))) rfl ⟨rfl, ?_⟩
          exact below_setRow HX2.out.hb (by omega) _
    · obtain rfl : i = ws.length := by omega
      have hR := HR.out
      rw [Nat.sub_self] at hR
      have HE := Aside0.mk (show some (c, M) = res from hR)
      have HS := Aside0.mk (mat_size (ws.length : Int) c M HM.out)
      have HX2 := Aside0.mk (HX.out.step HI.out.hB)
      clear hR HR
      go_wp2_with (first
        | (refine wpList_load_row rfl 33 (.tmp 5) rfl w1.heap.size rfl 33 _ (0, 0) _ HI.out.hG Tryd.underlying33 rfl (size33.trans (congrArg some HS.out.symm)) ?_)
        | (refine wpList_store_row rfl 33 (.tmp 2) (.tmp 74) rfl w.heap.size (mat (ws.length : Int) c M) rfl rfl 33 (mat 0 0 z36) HX2.out.hg (size33.trans (congrArg some HS.out.symm)) (HS38.out.trans HS.out.symm) (mat_all _ _ _) ?_))
      rw [← HE.out]
      refine bodyPost_ret (results_pair rfl _ _ w.heap.size 33 _ (0, 0) _ _ rfl rfl (heap_setRow_same HX2.out.hg) Tryd.underlying33 rfl (size33.trans (congrArg some HS.out.symm))) rfl ⟨rfl, ?_⟩
      exact below_setRow HX2.out.hb (by omega) _
end Go.Proofs.YtdgglnjegkmamaaDoor.Mx
