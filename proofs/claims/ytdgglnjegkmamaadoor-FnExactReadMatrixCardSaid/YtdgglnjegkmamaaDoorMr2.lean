/- ReadMatrix, the program's. No condition but what the split and the rows' reading answer, and the library's variables. -/
import Derived.Test.YtdgglnjegkmamaaDoorMr1
set_option linter.unusedVariables false
set_option linter.unusedSimpArgs false
namespace Go.Proofs.YtdgglnjegkmamaaDoor.Mx
open Go.RowKit Go.Proofs.YtdgglnjegkmamaaDoor.Arr Go.Proofs.YtdgglnjegkmamaaDoorW.PrintWords Go.Proofs.YtdgglnjegkmamaaDoorW.PrintLast Go.Proofs.YtdgglnjegkmamaaDoorW.PrintMore Go.Proofs.YtdgglnjegkmamaaDoor.QFnExactReadMatrix

theorem info29 : (Tryd.prog.info? 29).map (·.size) = some 1 := by kernel_rfl
theorem src_cells {w : World} {A : Option Addr} {l : List Int} (h : Kd.C (Kd.int .u16) w A l.length l) (h1 : 1 ≤ l.length) : ∃ ad, A = some ad ∧ ∀ j v, (l.map (Value.int .u16))[j]? = some v → w.cell? (ad.add j) = some v := by
  obtain ⟨ad, e, _⟩ := Kd.at_int h (0 : Int) (by omega) (by omega)
  refine ⟨ad, e, fun j v hv => ?_⟩
  rw [List.getElem?_map] at hv
  cases hj : l[j]? with
  | none => rw [hj] at hv; cases hv
  | some x =>
    rw [hj] at hv
    obtain rfl : Value.int .u16 x = v := by simpa using hv
    have hlt : j < l.length := (List.getElem?_eq_some_iff.1 hj).1
    obtain ⟨ad2, e2, hc⟩ := Kd.at_int h (j : Int) (by omega) (by omega)
    subst e2
    obtain rfl : ad2 = ad := by simpa using e
    have hc2 : w.cell? (ad2.add j) = some (.int .u16 (l.getD j 0)) := hc
    rw [hc2, List.getD_eq_getElem?_getD, hj]
    rfl
theorem RS.copy {w1 w' : World} {n c : Int} {M : List Int} (h : RS w1 w' n c M) (l : List Int) (i : Nat) (hM : M.length = 36) (hi : i < 6) (hl : l.length ≤ 6) :
    RS w1 (w'.setRow w1.heap.size ((mat n c M).toList.take (2 + i * 6) ++ (l.map (Value.int .u16) ++ (mat n c M).toList.drop (2 + i * 6 + l.length))).toArray) n c (putQ M l i l.length) :=
  ⟨below_setRow h.hB (Nat.le_refl _) _, by
    have e := mat_copy n c M l i hM hi hl
    rw [List.length_map] at e
    rw [e]
    exact heap_setRow_same h.hG⟩
theorem copy_one (l : List Int) : ∀ v ∈ l.map (Value.int .u16), v.oneCell' = true := by
  intro v hv
  obtain ⟨x, _, rfl⟩ := List.mem_map.1 hv
  rfl
set_option maxHeartbeats 800000 in
set_option maxRecDepth 100000 in
theorem implRM_long (s : ByteArray) (ws : List ByteArray) (hS : strings_Split.f s ⟨#[59]⟩ = some ws) (hlen : 6 < ws.length) (w : World) (hx : LaidMax w) :
    Calls Tryd.prog 10 #[.string s] w fun e w' => e = .returned (.tuple #[.agg (mat 0 0 z36), .int .i64 5]) ∧ Below w.heap.size w w' := by
  have HP := Aside0.mk hS
  have HMX := Aside0.mk hx
  have HX := Aside0.mk (Bx.start w (.cells (mat 0 0 z36) 33))
  have hz := zero33
  have hne := zne
  have hzs := zsize
  have hb0 := built0
  have HS := Aside0.mk hzs
  have hl2 : (6 : Int) < (ws.length : Int) := by omega
  clear hS hx
  go_enter Tryd.func10, Tryd.ntmps10
  go_wp2_with (first
    | (go_at_call 23; refine (strings_Split.calls s ⟨#[59]⟩ ws _ (LaidMax.below HMX.out HX.out.hb) HP.out).mono ?_; rintro e w1 ⟨v, rfl, hR, hB⟩; obtain ⟨A1, c1, e1⟩ := Kd.R_slice hR; subst e1; replace HX := Aside0.mk (HX.out.step hB); clear hR hB)
    | (refine wpList_store_row rfl 33 _ _ rfl w.heap.size _ rfl rfl 33 _ HX.out.hg (size33.trans (congrArg some HS.out.symm)) rfl (mat_all _ _ _) ?_))
  refine bodyPost_ret (results_pair rfl _ _ w.heap.size 33 _ (0, 0) _ _ rfl rfl (heap_setRow_same HX.out.hg) Tryd.underlying33 rfl (size33.trans (congrArg some HS.out.symm))) rfl ⟨rfl, ?_⟩
  exact below_setRow HX.out.hb (by omega) _
set_option maxHeartbeats 3200000 in
set_option maxRecDepth 100000 in
theorem implRM (k : Nat) (s : ByteArray) (ws : List ByteArray) (L : Nat → Option (List Int)) (hS : strings_Split.f s ⟨#[59]⟩ = some ws) (hlen : ws.length ≤ 6)
    (hL : ∀ i, i < ws.length → impl_ReadNims.f k (rdOf ByteArray.empty ws (i : Int)) = some (match L i with | some l => (l, 0) | none => ([], 5))) (res : Option (Int × List Int)) (hres : mxAll L ws.length 0 0 z36 = res) (w : World) (he : LaidErr w) (hx : LaidMax w) (hp : LaidPow w) :
    Calls Tryd.prog 10 #[.string s] w fun e w' => e = .returned (.tuple #[.agg (resM ws.length res), .int .i64 (resE res)]) ∧ Below w.heap.size w w' := by
  have HP := Aside0.mk hS
  have HL := Aside0.mk hL
  have HR := Aside0.mk hres
  have HN := Aside0.mk hlen
  have HMX := Aside0.mk hx
  have HCN := Aside0.mk (fun (r : List Int) (q : Int) (t : ByteArray) (W : World) (hb : Below w.heap.size w W) (h : impl_ReadNims.f k t = some (r, q)) => impl_ReadNims.calls k t r q W (LaidErr.below he hb) (LaidMax.below hx hb) (LaidPow.below hp hb) h)
  have HX := Aside0.mk (Bx.start w (.cells (mat 0 0 z36) 33))
  obtain ⟨Z, M, HZ, HM, hz, hZ0, hbu, hst, hst', hsz, hsZ⟩ := lit_names1 ws.length
  have hl2 : ¬ (6 : Int) < (ws.length : Int) := by omega
  have hw8 := i8_small ws.length hlen
  rw [← HZ.out] at HX
  clear hS hL hres hlen he hx hp
  go_enter Tryd.func10, Tryd.ntmps10
  go_wp2_with (first
    | (go_at_call 23; refine (strings_Split.calls s ⟨#[59]⟩ ws _ (LaidMax.below HMX.out HX.out.hb) HP.out).mono ?_; rintro e w1 ⟨v, rfl, hR, hB⟩; obtain ⟨A1, c1, e1⟩ := Kd.R_slice hR; subst e1; have HC := Aside0.mk (Kd.R_reads' hR).2.2; replace HX := Aside0.mk (HX.out.step hB); clear hR hB))
  have hZ := HZ.out
  have hM := HM.out
  clear HZ HM hz hZ0 hbu hst hst' hsz hsZ
  subst hZ
  subst hM
  have HB0 := Aside0.mk (RS.start w1 ws.length)
  generalize w1.alloc (.cells (mat (ws.length : Int) 0 z36) 33) = wz at HB0 ⊢
  have hb0 := built0
  have HS38 := Aside0.mk zsize
  go_loopw [22] (fun v22 w' => ∃ (i : Nat) (c : Int) (M : List Int), i ≤ ws.length ∧ v22 = .int .i64 i ∧ Aside0 (mxAll L (ws.length - i) i c M = res) ∧ Aside0 (M.length = 36) ∧ (0 ≤ c ∧ c ≤ 6) ∧ Aside0 (RS w1 w' ws.length c M)) (fun v22 w' => ws.length - (intOf v22).toNat)
  case atStart => exact ⟨0, 0, z36, Nat.zero_le _, rfl, HR, ⟨rfl⟩, by omega, HB0⟩
  case round =>
    clear HB0 HR
    obtain ⟨i, c, M, hi, rfl, HR, HM, hc6, HI⟩ := hrel
    by_cases hlt : i < ws.length
    · have hR := HR.out
      rw [show ws.length - i = (ws.length - i - 1) + 1 by omega] at hR
      unfold mxAll at hR
      have hlt2 : (i : Int) < (ws.length : Int) := by omega
      obtain ⟨ad, e1, hs⟩ := Kd.at_string (Kd.C_below HC.out HI.out.hB) (i : Int) (by omega) (by omega)
      subst e1
      have hs2 : wr.cell? (ad.add i) = some (.string (rdOf ByteArray.empty ws (i : Int))) := hs
      have hcall := HL.out i hlt
      cases hLi : L i with
      | none =>
        rw [hLi] at hR hcall
        have HE := Aside0.mk (show none = res from hR)
        have HCL := Aside0.mk (show impl_ReadNims.f k (rdOf ByteArray.empty ws (i : Int)) = some ([], 5) from hcall)
        clear hR hcall hLi HR
        go_wp2_with (first
          | (go_at_call 24; refine (HCN.out [] 5 _ _ (HX.out.step HI.out.hB).hb HCL.out).mono ?_; rintro e w2 ⟨v2, rfl, hR2, hB2⟩; have HX2 := Aside0.mk (HX.out.step (HI.out.step hB2).hB); clear hR2 hB2)
          | (refine wpList_store_row rfl 33 (.tmp 2) (.tmp 56) rfl w.heap.size (mat 0 0 z36) rfl rfl 33 (mat 0 0 z36) HX2.out.hg (size33.trans (congrArg some HS38.out.symm)) rfl (mat_all _ _ _) ?_))
        rw [← HE.out]
        refine bodyPost_ret (results_pair rfl _ _ w.heap.size 33 _ (0, 0) _ _ rfl rfl (heap_setRow_same HX2.out.hg) Tryd.underlying33 rfl (size33.trans (congrArg some HS38.out.symm))) rfl ⟨rfl, ?_⟩
        exact below_setRow HX2.out.hb (by omega) _
      | some l =>
        rw [hLi] at hR hcall
        have HCL := Aside0.mk (show impl_ReadNims.f k (rdOf ByteArray.empty ws (i : Int)) = some (l, 0) from hcall)
        clear hcall hLi HR
        unfold mxStep at hR
        simp only at hR
        have hwc : IntKind.i64.wrap c = c := by rw [i64_w]; unfold wrap64; omega
        by_cases h1 : 1 ≤ l.length ∧ l.length ≤ 6
        · have hq1 : ¬ (l.length : Int) < 1 := by omega
          have hq6 : ¬ (6 : Int) < (l.length : Int) := by omega
          by_cases h2 : i = 0 ∨ (l.length : Int) = c
          · rw [if_pos ⟨h1, h2⟩] at hR
            have HR2 := Aside0.mk (show mxAll L (ws.length - i - 1) (i + 1) (l.length : Int) (putQ M l i l.length) = res from hR)
            have h2b : ¬ 0 < i ∨ (0 < i ∧ c = (l.length : Int)) := by omega
            have hw8l := i8_small l.length h1.2
            have hi6 : (i : Int) < 6 := by have := HN.out; omega
            have HLL := Aside0.mk h1
            clear hR h2 h1
            rcases h2b with hb | ⟨hb, rfl⟩
            all_goals
              go_wp2_with (first
                | (go_at_call 24; refine (HCN.out l 0 _ _ (HX.out.step HI.out.hB).hb HCL.out).mono ?_; rintro e w2 ⟨v2, rfl, hR2, hB2⟩; obtain ⟨A2, c2, e2⟩ := Kd.R_slice hR2; subst e2; have HI2 := Aside0.mk (HI.out.step hB2); have HL2 := Aside0.mk ((LS.start hR2 HI.out.lt).set 1 (.int .i8 (l.length : Int))); have hc1 := mat_cell1 HI2.out.hG; have hf1 : w2.frozen? ⟨w1.heap.size, 1, none⟩ = false := frozen_of_row _ _ _ _ _ HI2.out.hG; obtain ⟨ad2, e3, hsrc⟩ := src_cells (Kd.R_reads' HL2.out.hL).2.2 HLL.out.1; subst e3; have HSR := Aside0.mk hsrc; have HI3 := Aside0.mk (HI2.out.cols (l.length : Int)); have HI4 := Aside0.mk (HI3.out.copy l i HM.out (by omega) HLL.out.2); clear hR2 hB2 hsrc HL2)
                | (refine wpList_copy_own rfl (.tmp 64) (.tmp 65) 50 50 rfl 29 Tryd.underlying50 info29 w1.heap.size (2 + i * 6) 6 6 ad2 l.length c2 rfl rfl _ 33 HI3.out.hG (l.map (Value.int .u16)) (by rw [List.length_map]; exact (Nat.min_eq_left HLL.out.2).symm) HSR.out (by rw [List.length_map, mat_size _ _ _ HM.out]; have := HLL.out.2; omega) (copy_one l) ?_))
            all_goals exact ⟨⟨i + 1, _, _, by omega, by go_num, ⟨by rw [show ws.length - (i + 1) = ws.length - i - 1 by omega]; exact HR2.out⟩, ⟨putQ_len M l i l.length HM.out (by have := HN.out; omega) (Nat.le_refl _) HLL.out.2⟩, by have := HLL.out.2; omega, HI4⟩, by simp [intOf]; omega⟩
          · rw [if_neg (fun h => h2 h.2)] at hR
            have HE := Aside0.mk (show none = res from hR)
            have hi0 : 0 < i := by omega
            have hne : ((l.length : Int) != c) = true := bne_iff_ne.mpr (by omega)
            clear hR h2
            go_wp2_with (first
              | (go_at_call 24; refine (HCN.out l 0 _ _ (HX.out.step HI.out.hB).hb HCL.out).mono ?_; rintro e w2 ⟨v2, rfl, hR2, hB2⟩; obtain ⟨A2, c2, e2⟩ := Kd.R_slice hR2; subst e2; have HI2 := Aside0.mk (HI.out.step hB2); have hc1 := mat_cell1 HI2.out.hG; have hf1 : w2.frozen? ⟨w1.heap.size, 1, none⟩ = false := frozen_of_row _ _ _ _ _ HI2.out.hG; have HX2 := Aside0.mk (HX.out.step HI2.out.hB); clear hR2 hB2)
              | (refine wpList_store_row rfl 33 (.tmp 2) (.tmp 56) rfl w.heap.size (mat 0 0 z36) rfl rfl 33 (mat 0 0 z36) HX2.out.hg (size33.trans (congrArg some HS38.out.symm)) rfl (mat_all _ _ _) ?_))
            rw [← HE.out]
            refine bodyPost_ret (results_pair rfl _ _ w.heap.size 33 _ (0, 0) _ _ rfl rfl (heap_setRow_same HX2.out.hg) Tryd.underlying33 rfl (size33.trans (congrArg some HS38.out.symm))) rfl ⟨rfl, ?_⟩
            exact below_setRow HX2.out.hb (by omega) _
        · have hq : (l.length : Int) < 1 ∨ (¬ (l.length : Int) < 1 ∧ (6 : Int) < (l.length : Int)) := by omega
          rw [if_neg (fun h => h1 h.1)] at hR
          have HE := Aside0.mk (show none = res from hR)
          clear hR
          rcases hq with hq | ⟨hq1, hq⟩
          all_goals
            go_wp2_with (first
              | (go_at_call 24; refine (HCN.out l 0 _ _ (HX.out.step HI.out.hB).hb HCL.out).mono ?_; rintro e w2 ⟨v2, rfl, hR2, hB2⟩; obtain ⟨A2, c2, e2⟩ := Kd.R_slice hR2; subst e2; have HI2 := Aside0.mk (HI.out.step hB2); have HX2 := Aside0.mk (HX.out.step HI2.out.hB); clear hR2 hB2)
              | (refine wpList_store_row rfl 33 (.tmp 2) (.tmp 56) rfl w.heap.size (mat 0 0 z36) rfl rfl 33 (mat 0 0 z36) HX2.out.hg (size33.trans (congrArg some HS38.out.symm)) rfl (mat_all _ _ _) ?_))
            rw [← HE.out]
            refine bodyPost_ret (results_pair rfl _ _ w.heap.size 33 _ (0, 0) _ _ rfl rfl (heap_setRow_same HX2.out.hg) Tryd.underlying33 rfl (size33.trans (congrArg some HS38.out.symm))) rfl ⟨rfl, ?_⟩
            exact below_setRow HX2.out.hb (by omega) _
    · obtain rfl : i = ws.length := by omega
      have hR := HR.out
      rw [Nat.sub_self] at hR
      have HE := Aside0.mk (show some (c, M) = res from hR)
      have HS := Aside0.mk (mat_size (ws.length : Int) c M HM.out)
      have HX2 := Aside0.mk (HX.out.step HI.out.hB)
      clear hR HR
      go_wp2_with (first
        | (refine wpList_load_row rfl 33 (.tmp 5) rfl w1.heap.size rfl 33 _ (0, 0) _ HI.out.hG Tryd.underlying33 rfl (size33.trans (congrArg some HS.out.symm)) ?_)
        | (refine wpList_store_row rfl 33 (.tmp 2) (.tmp 68) rfl w.heap.size (mat (ws.length : Int) c M) rfl rfl 33 (mat 0 0 z36) HX2.out.hg (size33.trans (congrArg some HS.out.symm)) (HS38.out.trans HS.out.symm) (mat_all _ _ _) ?_))
      rw [← HE.out]
      refine bodyPost_ret (results_pair rfl _ _ w.heap.size 33 _ (0, 0) _ _ rfl rfl (heap_setRow_same HX2.out.hg) Tryd.underlying33 rfl (size33.trans (congrArg some HS.out.symm))) rfl ⟨rfl, ?_⟩
      exact below_setRow HX2.out.hb (by omega) _
end Go.Proofs.YtdgglnjegkmamaaDoor.Mx
