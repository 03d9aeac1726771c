/- Written by the session's own program (wip/myprint.py), for the law FnExactRectangleByExclusion: each function as a plain Lean function, and its contract. -/
import Derived.Test.YtdgglnjegkmamaaDoorQFnExactRectangleByExclusionx0
import Derived.Test.YtdgglnjegkmamaaDoorQFnExactRectangleByExclusionx2
import Derived.Test.YtdgglnjegkmamaaDoorQFnExactRectangleByExclusionx3
import Derived.Test.YtdgglnjegkmamaaDoorQFnExactRectangleByExclusionx10
namespace Go.Proofs.YtdgglnjegkmamaaDoor.QFnExactRectangleByExclusion
open Go.RowKit Go.Proofs.YtdgglnjegkmamaaDoorW.PrintWords Go.Proofs.YtdgglnjegkmamaaDoorW.PrintLast Go.Proofs.YtdgglnjegkmamaaDoorW.PrintMore
attribute [local go_sem] max2_int min2_int max_two min_two max_three min_three max_four min_four   -- for this text's walks alone
set_option linter.unusedVariables false
set_option linter.unusedSimpArgs false

/-! ### impl_RectangleByExclusion: function 13 -/
def rxOk (a d : Int) (i k p q : Nat) : Bool := (bitU a p && bitU d q) && (decide (p ≠ i) || decide (q ≠ k))
/-- One row's share of a sum. -/
def rxQ (G : List Int) (a d : Int) (i k p : Nat) : Nat → Nat → Int → Int
  | 0, _, s => s
  | e + 1, q, s => rxQ G a d i k p e (q + 1) (if rxOk a d i k p q = true then Go.bits .xor .u16 s (rd G ((p * 5 + q : Nat) : Int)) else s)
def rxP (G : List Int) (a d : Int) (i k : Nat) : Nat → Nat → Int → Int
  | 0, _, s => s
  | e + 1, p, s => rxP G a d i k e (p + 1) (rxQ G a d i k p (k + 1) 0 s)
def rxB (G : List Int) (a : Int) (i k : Nat) : List Int → List Int → List Int
  | [], L => L
  | d :: t, L => rxB G a i k t (L ++ [rxP G a d i k (i + 1) 0 0])
def rxA (G : List Int) (i k : Nat) (TB : List Int) : List Int → List Int → List Int
  | [], L => L
  | a :: t, L => rxA G i k TB t (rxB G a i k TB L)
def rxK (f : Nat) (ac dn : Int) (i : Nat) : Nat → Nat → List Int → Option (List Int)
  | 0, _, G => some G
  | d + 1, k, G => (impl_turnsAt.f f ac (i : Int)).bind fun TA => (impl_turnsAt.f f dn (k : Int)).bind fun TB => if TA.length ≤ 1000 ∧ TB.length ≤ 1000 then ((impl_mex.f f (rxA G i k TB TA [])).bind fun v => rxK f ac dn i d (k + 1) (G.set (i * 5 + k) (IntKind.u16.wrap v))) else none
def rxI (f : Nat) (ac dn : Int) (Y : Nat) : Nat → Nat → List Int → Option (List Int)
  | 0, _, G => some G
  | d + 1, i, G => (rxK f ac dn i (Y + 1) 0 G).bind fun G' => rxI f ac dn Y d (i + 1) G'
/-- The value of a coin on a board, by exclusion. -/
def impl_RectangleByExclusion.f (k : Nat) (a0 a1 a2 a3 : Int) : Option (Int × Int) := (impl_cellCode.f a0 a1 a2 a3 4).bind fun c => if c = 0 then (if 0 ≤ a2 ∧ a2 ≤ 4 ∧ 0 ≤ a3 ∧ a3 ≤ 4 then ((rxI k a0 a1 a3.toNat (a2.toNat + 1) 0 g0).bind fun G => some (rd G ((a2.toNat * 5 + a3.toNat : Nat) : Int), 0)) else none) else some (0, c)
theorem rxK_mono (f : Nat) (ac dn : Int) (i : Nat) : ∀ d k G, LeO (rxK f ac dn i d k G) (rxK (f + 1) ac dn i d k G) := by
  intro d
  induction d with
  | zero => intro k G; exact LeO.refl _
  | succ d ih =>
    intro k G
    refine LeO.bind (impl_turnsAt.mono _ _ _) (fun TA => LeO.bind (impl_turnsAt.mono _ _ _) (fun TB => ?_))
    by_cases h : TA.length ≤ 1000 ∧ TB.length ≤ 1000
    · rw [if_pos h, if_pos h]
      exact LeO.bind (impl_mex.mono _ _) (fun v => ih _ _)
    · rw [if_neg h, if_neg h]
      exact LeO.refl _
theorem rxI_mono (f : Nat) (ac dn : Int) (Y : Nat) : ∀ d i G, LeO (rxI f ac dn Y d i G) (rxI (f + 1) ac dn Y d i G) := by
  intro d
  induction d with
  | zero => intro i G; exact LeO.refl _
  | succ d ih => intro i G; exact LeO.bind (rxK_mono _ _ _ _ _ _ _) (fun G' => ih _ _)
theorem impl_RectangleByExclusion.mono : ∀ a0 a1 a2 a3 k, LeO (impl_RectangleByExclusion.f k a0 a1 a2 a3) (impl_RectangleByExclusion.f (k + 1) a0 a1 a2 a3) := by
  intro a0 a1 a2 a3 k
  refine LeO.bind (LeO.refl _) (fun c => ?_)
  by_cases z : c = 0
  · rw [if_pos z, if_pos z]
    by_cases h : 0 ≤ a2 ∧ a2 ≤ 4 ∧ 0 ≤ a3 ∧ a3 ≤ 4
    · rw [if_pos h, if_pos h]
      exact LeO.bind (rxI_mono _ _ _ _ _ _ _) (fun _ => LeO.refl _)
    · rw [if_neg h, if_neg h]
      exact LeO.refl _
  · rw [if_neg z, if_neg z]
    exact LeO.refl _
/-- The board's box, the list that is gathered, the turns across. -/
structure AS (w0 W : World) (b S gL : Nat) (G : List Int) (vL vA : Value) (L TA : List Int) : Prop where
  hB : Below w0.heap.size w0 W
  hb : w0.heap.size ≤ b
  hbS : b < S
  hbL : b ≠ gL
  hgS : gL < S
  hS : S ≤ W.heap.size
  hG : W.heap[b]? = some (.cells (gc5 G) 64)
  hL : Kd.R (Kd.int .u16) 29 W w0.heap.size (fun k => k = gL ∨ S ≤ k) vL L
  hA : Kd.R (Kd.int .u32) 67 W w0.heap.size (fun k => k < S ∧ k ≠ gL) vA TA
/-- And the turns down. -/
structure DS (w0 W : World) (b S gL H S2 : Nat) (G : List Int) (vL vA vB : Value) (L TA TB : List Int) : Prop where
  hB : Below w0.heap.size w0 W
  hb : w0.heap.size ≤ b
  hbS : b < S
  hbL : b ≠ gL
  hgS : gL < S
  hSH : S ≤ H
  hHS : H ≤ S2
  hS : S2 ≤ W.heap.size
  hG : W.heap[b]? = some (.cells (gc5 G) 64)
  hL : Kd.R (Kd.int .u16) 29 W w0.heap.size (fun k => (k = gL ∨ S ≤ k) ∧ (k < H ∨ S2 ≤ k)) vL L
  hA : Kd.R (Kd.int .u32) 67 W w0.heap.size (fun k => k < S ∧ k ≠ gL) vA TA
  hD : Kd.R (Kd.int .u32) 67 W w0.heap.size (fun k => H ≤ k ∧ k < S2) vB TB
theorem AS.begun {w W W1 : World} {G : List Int} (h : BS w W G) {vA : Value} {TA : List Int} (hA : Kd.R (Kd.int .u32) 67 W1 (W.heap.size + 1) (fun _ => True) vA TA) (hB1 : Below (W.heap.size + 1) (W.alloc (.cells #[] 29)) W1) : AS w W1 w.heap.size W1.heap.size W.heap.size G (.slice (some ⟨W.heap.size, 0, none⟩) 0 0) vA [] TA := by
  have hlt := lt_of_block h.hG
  have s1 : (W.alloc (.cells #[] 29)).heap.size = W.heap.size + 1 := by simp
  have z1 := hB1.size
  rw [s1] at z1
  have hb1 : Below w.heap.size w W1 := below_step (below_alloc h.hB _) (by rw [s1]; exact hB1)
  have e1 : W1.heap[w.heap.size]? = some (.cells (gc5 G) 64) := by
    rw [hB1.block _ (by omega), heap_alloc_old _ _ hlt]
    exact h.hG
  have e2 : W1.heap[W.heap.size]? = some (.cells #[] 29) := by
    rw [hB1.block _ (by omega)]
    exact heap_alloc_new W _
  have hz := h.hB.size
  refine ⟨hb1, Nat.le_refl _, by omega, by omega, by omega, Nat.le_refl _, e1, ex_empty _ _ _ _ e2 hz (.inl rfl), ?_⟩
  exact Kd.R_lower (Kd.R_mono (Kd.R_bound hA) (fun k hk => ⟨hk.2.2.1, by omega⟩)) (by omega)
theorem AS.turn {w W W2 : World} {b S gL : Nat} {G : List Int} {vL vA vB : Value} {L TA TB : List Int} (h : AS w W b S gL G vL vA L TA) (hD : Kd.R (Kd.int .u32) 67 W2 W.heap.size (fun _ => True) vB TB) (hB2 : Below W.heap.size W W2) : DS w W2 b S gL W.heap.size W2.heap.size G vL vA vB L TA TB := by
  have z := hB2.size
  have hz := h.hB.size
  refine ⟨below_step h.hB hB2, h.hb, h.hbS, h.hbL, h.hgS, h.hS, z, Nat.le_refl _, (hB2.block b (lt_of_block h.hG)).trans h.hG, ?_, ?_, ?_⟩
  · exact Kd.R_mono (Kd.R_move (Kd.R_bound h.hL) (fun k hk => hB2.block k hk.2.2.1)) (fun k hk => ⟨hk.1, .inl hk.2.2.1⟩)
  · exact Kd.R_mono (Kd.R_move (Kd.R_bound h.hA) (fun k hk => hB2.block k hk.2.2.1)) (fun k hk => hk.1)
  · exact Kd.R_lower (Kd.R_mono (Kd.R_bound hD) (fun k hk => ⟨hk.2.1, hk.2.2.1⟩)) hz
theorem DS.app {w0 W w1 : World} {b S gL H S2 : Nat} {G : List Int} {vL vA vB v1 : Value} {L L' TA TB : List Int} (h : DS w0 W b S gL H S2 G vL vA vB L TA TB)
    (ho : Kd.R (Kd.int .u16) 29 w1 w0.heap.size (fun k => (k = gL ∨ S ≤ k) ∧ (k < H ∨ S2 ≤ k)) v1 L') (hb : Below w0.heap.size w0 w1) (hg : W.grownBy w1 vL.ownBlock) : DS w0 w1 b S gL H S2 G v1 vA vB L' TA TB := by
  have hSH := h.hSH
  have hHS := h.hHS
  have hne : ∀ k, (k < S ∧ k ≠ gL) ∨ (H ≤ k ∧ k < S2) → some k ≠ vL.ownBlock := fun k hk e => by
    have hgS := h.hgS
    have q := h.hL.1 k e.symm
    omega
  have e1 : w1.heap[b]? = W.heap[b]? := hg.block b (lt_of_block h.hG) (hne b (.inl ⟨h.hbS, h.hbL⟩))
  exact ⟨hb, h.hb, h.hbS, h.hbL, h.hgS, h.hSH, h.hHS, Nat.le_trans h.hS hg.size, e1.trans h.hG, ho, Kd.R_grown h.hA hg (fun k hk => hne k (.inl hk)), Kd.R_grown h.hD hg (fun k hk => hne k (.inr hk))⟩
theorem DS.drop {w0 W : World} {b S gL H S2 : Nat} {G : List Int} {vL vA vB : Value} {L TA TB : List Int} (h : DS w0 W b S gL H S2 G vL vA vB L TA TB) : AS w0 W b S gL G vL vA L TA :=
  ⟨h.hB, h.hb, h.hbS, h.hbL, h.hgS, Nat.le_trans h.hSH (Nat.le_trans h.hHS h.hS), h.hG, Kd.R_mono h.hL (fun _ hk => hk.1), h.hA⟩
theorem rxQ_succ (G : List Int) (a d : Int) (i k p e q : Nat) (s : Int) : rxQ G a d i k p (e + 1) q s = rxQ G a d i k p e (q + 1) (if rxOk a d i k p q = true then Go.bits .xor .u16 s (rd G ((p * 5 + q : Nat) : Int)) else s) := rfl
theorem rxP_succ (G : List Int) (a d : Int) (i k e p : Nat) (s : Int) : rxP G a d i k (e + 1) p s = rxP G a d i k e (p + 1) (rxQ G a d i k p (k + 1) 0 s) := rfl
theorem rxB_cons (G : List Int) (a : Int) (i k : Nat) (d : Int) (t L : List Int) : rxB G a i k (d :: t) L = rxB G a i k t (L ++ [rxP G a d i k (i + 1) 0 0]) := rfl
theorem rxA_cons (G : List Int) (i k : Nat) (TB : List Int) (a : Int) (t L : List Int) : rxA G i k TB (a :: t) L = rxA G i k TB t (rxB G a i k TB L) := rfl
set_option maxHeartbeats 3200000 in
set_option maxRecDepth 100000 in
theorem impl_RectangleByExclusion.calls (k : Nat) (a0 : Int) (a1 : Int) (a2 : Int) (a3 : Int) (r1 : Int) (r2 : Int) (w : World) (hLaid32_ : Laid32 w) (h : impl_RectangleByExclusion.f k a0 a1 a2 a3 = some (r1, r2)) :
    Calls Tryd.prog 13 #[.int .i64 a0, .int .i64 a1, .int .i64 a2, .int .i64 a3] w fun e w' => e = .returned (.tuple #[.int .u16 r1, .int .i64 r2]) ∧ Below w.heap.size w w' := by
  unfold impl_RectangleByExclusion.f at h
  obtain ⟨cc, gc, h⟩ := Option.bind_eq_some_iff.mp h
  have R0 := Aside0.mk (fun W => impl_cellCode.calls a0 a1 a2 a3 4 cc W gc)
  by_cases z : cc = 0
  · subst z
    rw [if_pos rfl] at h
    by_cases hc : 0 ≤ a2 ∧ a2 ≤ 4 ∧ 0 ≤ a3 ∧ a3 ≤ 4
    · rw [if_pos hc] at h
      obtain ⟨X, rfl⟩ := Int.eq_ofNat_of_zero_le hc.1
      obtain ⟨Y, rfl⟩ := Int.eq_ofNat_of_zero_le hc.2.2.1
      have hX : X ≤ 4 := by omega
      have hY : Y ≤ 4 := by omega
      rw [Int.toNat_natCast, Int.toNat_natCast] at h
      obtain ⟨GF, g1, g2⟩ := Option.bind_eq_some_iff.mp h
      injection g2 with g2
      injection g2 with g3 g4
      have G1 := Aside0.mk g1
      have G3 := Aside0.mk g3
      have G4 := Aside0.mk g4
      have HL := Aside0.mk hLaid32_
      clear h g1 g3 g4 hc gc hLaid32_
      have hz := g5_zero
      have hne := g5_ne
      have hzs := g5_size
      have HZ := Aside0.mk hzs
      go_enter Tryd.func13, Tryd.ntmps13
      go_wp2_with fail
      go_at_call 28
      refine (R0.out _).mono ?_
      rintro e wa ⟨rfl, ⟨na, rfl⟩⟩
      have HS1 := Aside0.mk (BS.startd w na)
      clear R0
      go_wp2_with (refine wpList_store_row rfl 64 _ _ rfl w.heap.size _ rfl rfl 64 _ HS1.out.hG (g5_info.trans (congrArg some HZ.out.symm)) rfl g5_all ?_)
      have HS0 := Aside0.mk (BS.row (G' := g0) HS1.out)
      clear hz hne hzs HZ HS1
      generalize ((w.drewN na).alloc (.cells (gc5 g0) 64)).setRow w.heap.size (gc5 g0) = wz at HS0 ⊢
      go_wp2_with fail
      go_loopw [33] (fun v33 w' => ∃ (i : Nat) (G : List Int), i ≤ X + 1 ∧ v33 = .int .i64 i ∧ Aside0 (rxI k a0 a1 Y (X + 1 - i) i G = some GF) ∧ Aside0 (G.length = 25) ∧ Aside0 (BS w w' G)) (fun v33 w' => X + 1 - (intOf v33).toNat)
      case atStart => exact ⟨0, _, Nat.zero_le _, rfl, G1, ⟨rfl⟩, HS0⟩
      case round =>
        clear HS0 G1
        obtain ⟨i, G, hi, rfl, HR, HG, HS⟩ := hrel
        by_cases hlt : i < X + 1
        · have hlt2 : (i : Int) < (X : Int) + 1 := by omega
          have hr := HR.out
          rw [show X + 1 - i = (X - i) + 1 by omega] at hr
          unfold rxI at hr
          obtain ⟨GR, hr1, hr2⟩ := Option.bind_eq_some_iff.mp hr
          have HR1 := Aside0.mk hr1
          have HR2 := Aside0.mk hr2
          clear hr hr1 hr2 HR
          go_wp2_with fail
          go_loopw [38] (fun v38 w' => ∃ (q : Nat) (G : List Int), q ≤ Y + 1 ∧ v38 = .int .i64 q ∧ Aside0 (rxK k a0 a1 i (Y + 1 - q) q G = some GR) ∧ Aside0 (G.length = 25) ∧ Aside0 (BS w w' G)) (fun v38 w' => Y + 1 - (intOf v38).toNat)
          case atStart => exact ⟨0, G, Nat.zero_le _, rfl, HR1, HG, HS⟩
          case round =>
            clear HS HR1 HG
            clear G
            obtain ⟨c, G, hcn, rfl, HC, HG, HS⟩ := hrel
            by_cases hct : c < Y + 1
            · have hct2 : (c : Int) < (Y : Int) + 1 := by omega
              have hr := HC.out
              rw [show Y + 1 - c = (Y - c) + 1 by omega] at hr
              unfold rxK at hr
              obtain ⟨TA, t1, hr⟩ := Option.bind_eq_some_iff.mp hr
              obtain ⟨TB, t2, hr⟩ := Option.bind_eq_some_iff.mp hr
              by_cases hTT : TA.length ≤ 1000 ∧ TB.length ≤ 1000
              · rw [if_pos hTT] at hr
                obtain ⟨v, t3, t4⟩ := Option.bind_eq_some_iff.mp hr
                have T1 := Aside0.mk t1
                have T2 := Aside0.mk t2
                have T3 := Aside0.mk t3
                have T4 := Aside0.mk t4
                have HTT := Aside0.mk hTT
                clear hr t1 t2 t3 t4 hTT HC
                go_wp2_with fail
                go_at_call 29
                refine (impl_turnsAt.calls k a0 _ TA _ (HL.out.below (by repeat (first | exact HS.out.hB | apply below_alloc | apply pw_below_drewN))) T1.out).mono ?_
                rintro e w1 ⟨vA, rfl, hA, hB1⟩
                have z1 : (wr.alloc (.cells #[] 29)).heap.size = wr.heap.size + 1 := by simp
                rw [z1] at hA hB1
                have HAS := Aside0.mk (AS.begun HS.out hA hB1)
                obtain ⟨A1, c1, rfl⟩ := Kd.R_slice hA
                clear hA hB1 z1
                generalize hgL : wr.heap.size = gL at HAS ⊢
                clear hgL HS
                generalize hSz : w1.heap.size = S at HAS
                clear hSz
                go_wp2_with fail
                go_loopw [14, 46] (fun v14 v46 w' => ∃ (x : Nat) (L : List Int), x ≤ TA.length ∧ v46 = .int .i64 x ∧ Aside0 (rxA G i c TB (TA.drop x) L = rxA G i c TB TA []) ∧ Aside0 (L.length = x * TB.length) ∧ Aside0 (AS w w' w.heap.size S gL G v14 (.slice A1 TA.length c1) L TA)) (fun v14 v46 w' => TA.length - (intOf v46).toNat)
                case atStart => exact ⟨0, [], Nat.zero_le _, rfl, ⟨rfl⟩, ⟨by simp⟩, HAS⟩
                case round =>
                  clear HAS
                  obtain ⟨x, L, hx, rfl, HA, HLL, HAS⟩ := hrel
                  by_cases hit : x < TA.length
                  · obtain ⟨ad1, e1, ca⟩ := Kd.at_int (Kd.R_reads' HAS.out.hA).2.2 (x : Int) (by omega) (by omega)
                    subst e1
                    have ca2 : wr.cell? (ad1.add x) = some (.int .u32 (rd TA (x : Int))) := ca
                    have hit2 : (x : Int) < (TA.length : Int) := by omega
                    go_wp2_with fail
                    go_at_call 29
                    refine (impl_turnsAt.calls k a1 _ TB _ (HL.out.below HAS.out.hB) T2.out).mono ?_
                    rintro e w2 ⟨vB, rfl, hD, hB2⟩
                    have HDS := Aside0.mk (AS.turn HAS.out hD hB2)
                    obtain ⟨A2, c2, rfl⟩ := Kd.R_slice hD
                    clear hD hB2 ca ca2
                    generalize hHz : wr.heap.size = H at HDS
                    generalize hSz : w2.heap.size = S2 at HDS
                    clear hHz hSz HAS
                    go_wp2_with fail
                    go_loopw [14, 54] (fun v14 v54 w' => ∃ (j : Nat) (L2 : List Int), j ≤ TB.length ∧ v54 = .int .i64 j ∧ Aside0 (rxB G (rd TA (x : Int)) i c (TB.drop j) L2 = rxB G (rd TA (x : Int)) i c TB L) ∧ Aside0 (L2.length = x * TB.length + j) ∧ Aside0 (DS w w' w.heap.size S gL H S2 G v14 (.slice (some ad1) TA.length c1) (.slice A2 TB.length c2) L2 TA TB)) (fun v14 v54 w' => TB.length - (intOf v54).toNat)
                    case atStart => exact ⟨0, L, Nat.zero_le _, rfl, ⟨rfl⟩, ⟨by have := HLL.out; omega⟩, HDS⟩
                    case round =>
                      clear HDS
                      obtain ⟨j, L2, hj, rfl, HB, HL2, HDS⟩ := hrel
                      by_cases hjt : j < TB.length
                      · obtain ⟨ad2, e2, cd⟩ := Kd.at_int (Kd.R_reads' HDS.out.hD).2.2 (j : Int) (by omega) (by omega)
                        subst e2
                        have cd2 : wr.cell? (ad2.add j) = some (.int .u32 (rd TB (j : Int))) := cd
                        have hjt2 : (j : Int) < (TB.length : Int) := by omega
                        go_wp2_with fail
                        go_loopw [19, 60] (fun v19 v60 w' => ∃ (p : Nat) (s : Int), p ≤ i + 1 ∧ v19 = .int .u16 s ∧ v60 = .int .i64 p ∧ Aside0 (rxP G (rd TA (x : Int)) (rd TB (j : Int)) i c (i + 1 - p) p s = rxP G (rd TA (x : Int)) (rd TB (j : Int)) i c (i + 1) 0 0) ∧ Aside0 (DS w w' w.heap.size S gL H S2 G _ (.slice (some ad1) TA.length c1) (.slice (some ad2) TB.length c2) L2 TA TB)) (fun v19 v60 w' => i + 1 - (intOf v60).toNat)
                        case atStart => exact ⟨0, 0, Nat.zero_le _, rfl, rfl, ⟨rfl⟩, HDS⟩
                        case round =>
                          clear HDS cd cd2
                          obtain ⟨p, s, hp, rfl, rfl, HP, HDS⟩ := hrel
                          by_cases hpt : p < i + 1
                          · have hx := HP.out
                            rw [show i + 1 - p = (i - p) + 1 by omega] at hx
                            rw [rxP_succ G _ _ i c (i - p) p s] at hx
                            have HP2 := Aside0.mk hx
                            clear hx HP
                            go_wp2_with fail
                            go_loopw [19, 65] (fun v19 v65 w' => ∃ (q : Nat) (s2 : Int), q ≤ c + 1 ∧ v19 = .int .u16 s2 ∧ v65 = .int .i64 q ∧ Aside0 (rxQ G (rd TA (x : Int)) (rd TB (j : Int)) i c p (c + 1 - q) q s2 = rxQ G (rd TA (x : Int)) (rd TB (j : Int)) i c p (c + 1) 0 s) ∧ Aside0 (DS w w' w.heap.size S gL H S2 G _ (.slice (some ad1) TA.length c1) (.slice (some ad2) TB.length c2) L2 TA TB)) (fun v19 v65 w' => c + 1 - (intOf v65).toNat)
                            case atStart => exact ⟨0, s, Nat.zero_le _, rfl, rfl, ⟨rfl⟩, HDS⟩
                            case round =>
                              clear HDS
                              obtain ⟨q, s2, hq, rfl, rfl, HX, HDS⟩ := hrel
                              by_cases hqt : q < c + 1
                              · as_aux_lemma =>
                                  have hx := HX.out
                                  rw [show c + 1 - q = (c - q) + 1 by omega] at hx
                                  rw [rxQ_succ G _ _ i c p (c - q) q s2] at hx
                                  unfold rxOk bitU at hx
                                  have hcell : wr.cell? ⟨w.heap.size, p * 5 + q, none⟩ = some (.int .u16 (rd G ((p * 5 + q : Nat) : Int))) := by
                                    rw [cell_of_row _ _ _ _ _ _ HDS.out.hG]
                                    exact gc5_at G (p * 5 + q) (by rw [HG.out]; omega)
                                  obtain ⟨SA, hSA⟩ : ∃ y, shr .u32 (rd TA (x : Int)) (p : Int) = y := ⟨_, rfl⟩
                                  obtain ⟨SD, hSD⟩ : ∃ y, shr .u32 (rd TB (j : Int)) (q : Int) = y := ⟨_, rfl⟩
                                  have hSA1 : (rd TA (x : Int)) / 2 ^ min p 32 = SA := hSA
                                  have hSD1 : (rd TB (j : Int)) / 2 ^ min q 32 = SD := hSD
                                  have mU : min p 32 = p := by omega
                                  have mV : min q 32 = q := by omega
                                  have hSA2 : (rd TA (x : Int)) / 2 ^ p = SA := by rw [← mU]; exact hSA1
                                  have hSD2 : (rd TB (j : Int)) / 2 ^ q = SD := by rw [← mV]; exact hSD1
                                  rw [hSA, hSD] at hx
                                  clear hSA hSD
                                  by_cases bA : Go.bits .and .u32 SA 1 = 1
                                  · have bA0 : (Go.bits .and .u32 SA 1 == 1) = true := beq_iff_eq.mpr bA
                                    by_cases bD : Go.bits .and .u32 SD 1 = 1
                                    · have bD0 : (Go.bits .and .u32 SD 1 == 1) = true := beq_iff_eq.mpr bD
                                      by_cases hpi : p = i
                                      · have hpi0 : ((p : Int) != (i : Int)) = false := by rw [hpi]; simp
                                        by_cases hqc : q = c
                                        · have hqc0 : ((q : Int) != (c : Int)) = false := by rw [hqc]; simp
                                          rw [decide_eq_true bA, decide_eq_true bD, decide_eq_false (p := p ≠ i) (by omega), decide_eq_false (p := q ≠ c) (by omega)] at hx
                                          simp only [Bool.or_self, Bool.and_false, Bool.false_eq_true, if_false] at hx
                                          clear hpi hqc
                                          have HX2 := Aside0.mk hx
                                          clear hx HX bA bD
                                          go_wp2_with fail
                                          exact ⟨⟨q + 1, s2, by omega, by first | rfl | simp, by go_num, ⟨by rw [show c + 1 - (q + 1) = c - q by omega]; exact HX2.out⟩, HDS⟩, by simp [intOf]; omega⟩
                                        · have hqc0 : ((q : Int) != (c : Int)) = true := bne_iff_ne.mpr (by omega)
                                          rw [decide_eq_true bA, decide_eq_true bD, decide_eq_false (p := p ≠ i) (by omega), decide_eq_true (p := q ≠ c) hqc] at hx
                                          simp only [Bool.and_self, Bool.true_or, Bool.or_true, Bool.and_true, Bool.true_and, if_true] at hx
                                          clear hpi
                                          have HX2 := Aside0.mk hx
                                          clear hx HX bA bD
                                          go_wp2_with fail
                                          exact ⟨⟨q + 1, Go.bits .xor .u16 s2 (rd G ((p * 5 + q : Nat) : Int)), by omega, by first | rfl | simp, by go_num, ⟨by rw [show c + 1 - (q + 1) = c - q by omega]; exact HX2.out⟩, HDS⟩, by simp [intOf]; omega⟩
                                      · have hpi0 : ((p : Int) != (i : Int)) = true := bne_iff_ne.mpr (by omega)
                                        rw [decide_eq_true bA, decide_eq_true bD, decide_eq_true (p := p ≠ i) hpi] at hx
                                        simp only [Bool.and_self, Bool.true_or, Bool.or_true, Bool.and_true, Bool.true_and, if_true] at hx
                                        have HX2 := Aside0.mk hx
                                        clear hx HX bA bD
                                        go_wp2_with fail
                                        exact ⟨⟨q + 1, Go.bits .xor .u16 s2 (rd G ((p * 5 + q : Nat) : Int)), by omega, by first | rfl | simp, by go_num, ⟨by rw [show c + 1 - (q + 1) = c - q by omega]; exact HX2.out⟩, HDS⟩, by simp [intOf]; omega⟩
                                    · have bD0 : (Go.bits .and .u32 SD 1 == 1) = false := beq_eq_false_iff_ne.mpr bD
                                      rw [decide_eq_true bA, decide_eq_false bD] at hx
                                      simp only [Bool.and_false, Bool.false_and, Bool.false_eq_true, if_false] at hx
                                      have HX2 := Aside0.mk hx
                                      clear hx HX bA bD
                                      go_wp2_with fail
                                      exact ⟨⟨q + 1, s2, by omega, by first | rfl | simp, by go_num, ⟨by rw [show c + 1 - (q + 1) = c - q by omega]; exact HX2.out⟩, HDS⟩, by simp [intOf]; omega⟩
                                  · have bA0 : (Go.bits .and .u32 SA 1 == 1) = false := beq_eq_false_iff_ne.mpr bA
                                    rw [decide_eq_false bA] at hx
                                    simp only [Bool.false_and, Bool.and_false, Bool.false_eq_true, if_false] at hx
                                    have HX2 := Aside0.mk hx
                                    clear hx HX bA
                                    go_wp2_with fail
                                    exact ⟨⟨q + 1, s2, by omega, by first | rfl | simp, by go_num, ⟨by rw [show c + 1 - (q + 1) = c - q by omega]; exact HX2.out⟩, HDS⟩, by simp [intOf]; omega⟩
                              · as_aux_lemma =>
                                  have hx := HX.out
                                  rw [show c + 1 - q = 0 by omega] at hx
                                  have hx2 : s2 = rxQ G (rd TA (x : Int)) (rd TB (j : Int)) i c p (c + 1) 0 s := hx
                                  have HP3 := HP2.out
                                  rw [← hx2] at HP3
                                  have HP4 := Aside0.mk HP3
                                  clear hx hx2 HX HP2 HP3
                                  go_wp2_with fail
                                  exact ⟨⟨p + 1, s2, by omega, rfl, by go_num, ⟨by rw [show i + 1 - (p + 1) = i - p by omega]; exact HP4.out⟩, HDS⟩, by simp [intOf]; omega⟩
                          · as_aux_lemma =>
                              have ewj : wrap64 ((j : Int) + 1) = (j : Int) + 1 := by have := HTT.out; unfold wrap64; omega
                              have ewj2 : IntKind.i64.wrap ((j : Int) + 1) = (j : Int) + 1 := by rw [i64_w]; exact ewj
                              have hx := HP.out
                              rw [show i + 1 - p = 0 by omega] at hx
                              have HX2 := Aside0.mk (show s = rxP G (rd TA (x : Int)) (rd TB (j : Int)) i c (i + 1) 0 0 from hx)
                              clear hx HP
                              go_wp2_with (first | ((with_reducible refine gate_builtin (b := .append) (xs := #[.tmp 99, .tmp 101]) rfl ?_); at_builtin; refine Kd.R_append (Kd.int .u16) (w0 := w) w.heap.size rfl (.tmp 99) (.tmp 101) 50 29 (.int .u16 0) 2 rfl Tryd.underlying50 ex_info rfl (by decide) (by omega) _ L2 s [.int .u16 s] (fun k_ => (k_ = gL ∨ S ≤ k_) ∧ (k_ < H ∨ S2 ≤ k_)) (fun _ => False) rfl rfl ?aP (fun _ hk => hk.elim) ?aF ?aO ?aB ?aS ?aL ?_; (case aP => exact rfl); (case aB => exact HDS.out.hB); (case aF => exact fun k_ hk_ => ⟨.inr (Nat.le_trans HDS.out.hSH (Nat.le_trans HDS.out.hHS (Nat.le_trans HDS.out.hS hk_))), .inr (Nat.le_trans HDS.out.hS hk_)⟩); (case aO => exact HDS.out.hL); (case aS => exact HDS.out.hB.size); (case aL => exact ex_len HTT.out.1 HTT.out.2 hit hjt HL2.out); intro v1 w4 ho hb hg hat; have HG2 := Aside0.mk (DS.app HDS.out ho hb hg); clear ho hb hg hat HDS))
                              exact ⟨⟨j + 1, L2 ++ [s], by omega, by go_num, ⟨by rw [← HB.out, List.drop_eq_getElem_cons hjt, rxB_cons, HX2.out, ← rd_get hjt]⟩, ⟨by rw [List.length_append, HL2.out]; simp; omega⟩, HG2⟩, by simp [intOf]; omega⟩
                      · as_aux_lemma =>
                          have ewi : wrap64 ((x : Int) + 1) = (x : Int) + 1 := by have := HTT.out; unfold wrap64; omega
                          have ewi2 : IntKind.i64.wrap ((x : Int) + 1) = (x : Int) + 1 := by rw [i64_w]; exact ewi
                          obtain rfl : j = TB.length := by omega
                          have hb := HB.out
                          rw [List.drop_length] at hb
                          have HB2 := Aside0.mk (show L2 = rxB G (rd TA (x : Int)) i c TB L from hb)
                          clear hb HB
                          go_wp2_with fail
                          exact ⟨⟨x + 1, L2, by omega, by go_num, ⟨by rw [← HA.out, List.drop_eq_getElem_cons hit, rxA_cons, HB2.out, ← rd_get hit]⟩, ⟨by rw [HL2.out, Nat.succ_mul]⟩, ⟨DS.drop HDS.out⟩⟩, by simp [intOf]; omega⟩
                  · as_aux_lemma =>
                      obtain rfl : x = TA.length := by omega
                      have ha := HA.out
                      rw [List.drop_length] at ha
                      have HA2 := Aside0.mk (show L = rxA G i c TB TA [] from ha)
                      clear ha HA
                      obtain ⟨A3, c3, e3⟩ := Kd.R_slice HAS.out.hL
                      subst e3
                      have hm := Kd.R_reads' HAS.out.hL
                      have LE := Aside0.mk (fun W (hb : Below wr.heap.size wr W) => impl_mex.calls k A3 c3 L v W (Kd.C_below hm.2.2 hb) hm.2.1 (by rw [HA2.out]; exact T3.out))
                      have HBS := Aside0.mk (show BS w wr G from ⟨HAS.out.hB, HAS.out.hG⟩)
                      clear hm HAS HA2
                      go_wp2_with fail
                      have hlc : i * 5 + c < 25 := by omega
                      go_region_with (go_at_call 30; refine (LE.out _ (by repeat (first | exact Below.refl _ _ | apply pw_below_drewN | apply below_drew1))).mono ?_; rintro e w5 ⟨rfl, hb5⟩; have hb6 : Below wr.heap.size wr w5 := below_step (by repeat (first | exact Below.refl _ _ | apply pw_below_drewN | apply below_drew1)) hb5; have HB5 := Aside0.mk (BS.cells HBS.out hb6 HG.out hlc); have HB6 := Aside0.mk hb6; clear hb6; have hc5 := HB5.out.1; have hf5 := HB5.out.2; clear hb5)
                      all_goals (go_wp2_with fail; first | exact ⟨⟨c + 1, G.set (i * 5 + c) (IntKind.u16.wrap v), by omega, by go_num, ⟨by rw [show Y + 1 - (c + 1) = Y - c by omega]; exact T4.out⟩, ⟨by rw [List.length_set]; exact HG.out⟩, ⟨BS.put HBS.out HB6.out (i * 5 + c) (IntKind.u16.wrap v)⟩⟩, by simp [intOf]; omega⟩ | (go_roundw; (case measure => (simp [intOf]; omega)); (case rel => exact ⟨c + 1, G.set (i * 5 + c) (IntKind.u16.wrap v), by omega, by go_num, ⟨by rw [show Y + 1 - (c + 1) = Y - c by omega]; exact T4.out⟩, ⟨by rw [List.length_set]; exact HG.out⟩, ⟨BS.put HBS.out HB6.out (i * 5 + c) (IntKind.u16.wrap v)⟩⟩)))
              · rw [if_neg hTT] at hr
                cases hr
            · as_aux_lemma =>
                have ec : Y + 1 - c = 0 := by omega
                have hr := HC.out
                rw [ec] at hr
                have e2 : G = GR := Option.some.inj hr
                subst e2
                clear hr HC
                go_wp2_with fail
                exact ⟨⟨i + 1, G, by omega, by go_num, ⟨by rw [show X + 1 - (i + 1) = X - i by omega]; exact HR2.out⟩, HG, HS⟩, by simp [intOf]; omega⟩
        · as_aux_lemma =>
            have en : X + 1 - i = 0 := by omega
            have hr := HR.out
            rw [en] at hr
            have e2 : G = GF := Option.some.inj hr
            subst e2
            have enY : i = X + 1 := by omega
            subst enY
            have hcell : wr.cell? ⟨w.heap.size, X * 5 + Y, none⟩ = some (.int .u16 (rd G ((X * 5 + Y : Nat) : Int))) :=
              (cell_of_row _ _ _ _ _ _ HS.out.hG).trans (gc5_at G (X * 5 + Y) (by rw [HG.out]; omega))
            rw [G3.out] at hcell
            clear hr HR
            go_wp2_with fail
            go_ret2
            exact ⟨by rw [← G4.out]; rfl, HS.out.hB⟩
    · rw [if_neg hc] at h
      cases h
  · rw [if_neg z] at h
    injection h with h
    injection h with e1 e2
    subst e1 e2
    have zb : (cc != 0) = true := bne_iff_ne.mpr z
    clear gc hLaid32_
    go_enter Tryd.func13, Tryd.ntmps13
    go_wp2_with fail
    go_at_call 28
    refine (R0.out _).mono ?_
    rintro e wa ⟨rfl, ⟨na, rfl⟩⟩
    go_wp2_with fail
    go_ret2
    exact ⟨rfl, pw_below_drewN (Below.refl _ _) na⟩

/-! ### laws_FnExactRectangleByExclusion: function 5 -/
def laws_FnExactRectangleByExclusion.f (k : Nat) (a0 : Int) (a1 : Int) (a2 : Int) (a3 : Int) : Option (Bool) := (spec_RectangleByExclusion.f k a0 a1 a2 a3).bind fun bt245 => ((impl_RectangleByExclusion.f k a0 a1 a2 a3).bind fun bt247 => (if bt247.1 = bt245.1 then (if bt247.2 = bt245.2 then (some true) else (some false)) else (some false)))
theorem laws_FnExactRectangleByExclusion.mono : ∀ a0 a1 a2 a3 k, LeO (laws_FnExactRectangleByExclusion.f k a0 a1 a2 a3) (laws_FnExactRectangleByExclusion.f (k + 1) a0 a1 a2 a3) := by
  intro a0 a1 a2 a3 k
  unfold laws_FnExactRectangleByExclusion.f
  repeat' first
      | (with_reducible exact impl_RectangleByExclusion.mono _ _ _ _ _)
      | (with_reducible exact spec_RectangleByExclusion.mono _ _ _ _ _)
      | (with_reducible exact LeO.refl _)
      | (with_reducible exact LeO.none _)
      | (with_reducible refine LeO.ite ?_ ?_)
      | (with_reducible refine LeO.bind ?_ (fun _ => ?_))
      | exact impl_RectangleByExclusion.mono _ _ _ _ _
      | exact spec_RectangleByExclusion.mono _ _ _ _ _
      | exact LeO.none _
      | refine LeO.ite ?_ ?_
      | refine LeO.bind ?_ (fun _ => ?_)
set_option maxHeartbeats 8000000 in
set_option maxRecDepth 100000 in
theorem laws_FnExactRectangleByExclusion.calls (k : Nat) (a0 : Int) (a1 : Int) (a2 : Int) (a3 : Int) (r : Bool) (w : World) (hLaid32_ : Laid32 w) (h : laws_FnExactRectangleByExclusion.f k a0 a1 a2 a3 = some r) :
    Calls Tryd.prog 5 #[.int .i64 a0, .int .i64 a1, .int .i64 a2, .int .i64 a3] w fun e w' => e = .returned (.bool r) ∧ Below w.heap.size w w' := by
  have HLaid32_ := Aside0.mk hLaid32_
  clear hLaid32_
  have HB := Aside0.mk (Below.refl w.heap.size w)
  have H : ((spec_RectangleByExclusion.f k a0 a1 a2 a3).bind fun bt245 => ((impl_RectangleByExclusion.f k a0 a1 a2 a3).bind fun bt247 => (if bt247.1 = bt245.1 then (if bt247.2 = bt245.2 then (some true) else (some false)) else (some false)))) = some r := h
  clear h
  replace H := Option.bind_eq_some_iff.mp H
  obtain ⟨⟨t245, t246⟩, A50, H⟩ := H
  replace H : ((impl_RectangleByExclusion.f k a0 a1 a2 a3).bind fun bt247 => (if bt247.1 = t245 then (if bt247.2 = t246 then (some true) else (some false)) else (some false))) = some r := H
  have A5 := Aside0.mk A50
  clear A50
  replace H := Option.bind_eq_some_iff.mp H
  obtain ⟨⟨t247, t248⟩, A60, H⟩ := H
  replace H : (if t247 = t245 then (if t248 = t246 then (some true) else (some false)) else (some false)) = some r := H
  have A6 := Aside0.mk A60
  clear A60
  by_cases c7 : t247 = t245
  · rw [if_pos c7] at H
    have c7b0 : (t247 == t245) = true := beq_iff_eq.mpr c7
    have c7b1 : (t247 != t245) = false := bne_eq_false_iff_eq.mpr c7
    clear c7
    by_cases c8 : t248 = t246
    · rw [if_pos c8] at H
      have c8b0 : (t248 == t246) = true := beq_iff_eq.mpr c8
      have c8b1 : (t248 != t246) = false := bne_eq_false_iff_eq.mpr c8
      clear c8
      obtain rfl := Option.some.inj H
      go_enter Tryd.func5, Tryd.ntmps5
      go_wp2_with (first | ((with_reducible refine gate_callee (f := 12) rfl ?_); refine goesL_ (some 18) rfl rfl Tryd.func12 (by kernel_rfl) rfl #[.int .i64 a0, .int .i64 a1, .int .i64 a2, .int .i64 a3] rfl (by (try simp only [List.map_toArray, List.map_cons, List.map_nil]); first | done | rfl | (simp only [List.length_drop, List.length_take]; rfl)) ?_; (with_reducible refine (spec_RectangleByExclusion.calls k a0 a1 a2 a3 t245 t246 _ A5.out).mono ?_); rintro e w9 ⟨rfl, hb⟩; refine ⟨_, rfl, ?_⟩; have n0_ := Aside0.mk (below_step (by repeat (first | (with_reducible first | exact HB.out | apply below_alloc | apply pw_below_drewN | apply below_drew1) | exact HB.out)) hb); clear HB; have HB := n0_; clear n0_; (try clear hb); (try clear hb2); (try clear hk); (try clear hi)) | ((with_reducible refine gate_callee (f := 13) rfl ?_); refine goesL_ (some 26) rfl rfl Tryd.func13 (by kernel_rfl) rfl #[.int .i64 a0, .int .i64 a1, .int .i64 a2, .int .i64 a3] rfl (by (try simp only [List.map_toArray, List.map_cons, List.map_nil]); first | done | rfl | (simp only [List.length_drop, List.length_take]; rfl)) ?_; (with_reducible refine (impl_RectangleByExclusion.calls k a0 a1 a2 a3 t247 t248 _ (by repeat (first | exact HLaid32_.out | exact Laid32.below HLaid32_.out HB.out | exact Laid32.below HLaid32_.out (Drawn0.below ⟨⟨_, rfl⟩⟩) | apply Laid32.drew)) A6.out).mono ?_); rintro e w10 ⟨rfl, hb⟩; refine ⟨_, rfl, ?_⟩; have n0_ := Aside0.mk (below_step (by repeat (first | (with_reducible first | exact HB.out | apply below_alloc | apply pw_below_drewN | apply below_drew1) | exact HB.out)) hb); clear HB; have HB := n0_; clear n0_; (try clear hb); (try clear hb2); (try clear hk); (try clear hi)))
      go_ret
      exact ⟨by first | rfl | (simp [errW_none, errW_some] <;> rfl) | (simp [*, errW_none, errW_some] <;> rfl), by repeat (first | (with_reducible first | exact HB.out | apply below_alloc | apply pw_below_drewN | apply below_drew1) | exact HB.out)⟩
    · rw [if_neg c8] at H
      have c8b0 : (t248 == t246) = false := beq_eq_false_iff_ne.mpr c8
      have c8b1 : (t248 != t246) = true := bne_iff_ne.mpr c8
      obtain rfl := Option.some.inj H
      go_enter Tryd.func5, Tryd.ntmps5
      go_wp2_with (first | ((with_reducible refine gate_callee (f := 12) rfl ?_); refine goesL_ (some 18) rfl rfl Tryd.func12 (by kernel_rfl) rfl #[.int .i64 a0, .int .i64 a1, .int .i64 a2, .int .i64 a3] rfl (by (try simp only [List.map_toArray, List.map_cons, List.map_nil]); first | done | rfl | (simp only [List.length_drop, List.length_take]; rfl)) ?_; (with_reducible refine (spec_RectangleByExclusion.calls k a0 a1 a2 a3 t245 t246 _ A5.out).mono ?_); rintro e w11 ⟨rfl, hb⟩; refine ⟨_, rfl, ?_⟩; have n0_ := Aside0.mk (below_step (by repeat (first | (with_reducible first | exact HB.out | apply below_alloc | apply pw_below_drewN | apply below_drew1) | exact HB.out)) hb); clear HB; have HB := n0_; clear n0_; (try clear hb); (try clear hb2); (try clear hk); (try clear hi)) | ((with_reducible refine gate_callee (f := 13) rfl ?_); refine goesL_ (some 26) rfl rfl Tryd.func13 (by kernel_rfl) rfl #[.int .i64 a0, .int .i64 a1, .int .i64 a2, .int .i64 a3] rfl (by (try simp only [List.map_toArray, List.map_cons, List.map_nil]); first | done | rfl | (simp only [List.length_drop, List.length_take]; rfl)) ?_; (with_reducible refine (impl_RectangleByExclusion.calls k a0 a1 a2 a3 t247 t248 _ (by repeat (first | exact HLaid32_.out | exact Laid32.below HLaid32_.out HB.out | exact Laid32.below HLaid32_.out (Drawn0.below ⟨⟨_, rfl⟩⟩) | apply Laid32.drew)) A6.out).mono ?_); rintro e w12 ⟨rfl, hb⟩; refine ⟨_, rfl, ?_⟩; have n0_ := Aside0.mk (below_step (by repeat (first | (with_reducible first | exact HB.out | apply below_alloc | apply pw_below_drewN | apply below_drew1) | exact HB.out)) hb); clear HB; have HB := n0_; clear n0_; (try clear hb); (try clear hb2); (try clear hk); (try clear hi)))
      go_ret
      exact ⟨by first | rfl | (simp [errW_none, errW_some] <;> rfl) | (simp [*, errW_none, errW_some] <;> rfl), by repeat (first | (with_reducible first | exact HB.out | apply below_alloc | apply pw_below_drewN | apply below_drew1) | exact HB.out)⟩
  · rw [if_neg c7] at H
    have c7b0 : (t247 == t245) = false := beq_eq_false_iff_ne.mpr c7
    have c7b1 : (t247 != t245) = true := bne_iff_ne.mpr c7
    obtain rfl := Option.some.inj H
    go_enter Tryd.func5, Tryd.ntmps5
    go_wp2_with (first | ((with_reducible refine gate_callee (f := 12) rfl ?_); refine goesL_ (some 18) rfl rfl Tryd.func12 (by kernel_rfl) rfl #[.int .i64 a0, .int .i64 a1, .int .i64 a2, .int .i64 a3] rfl (by (try simp only [List.map_toArray, List.map_cons, List.map_nil]); first | done | rfl | (simp only [List.length_drop, List.length_take]; rfl)) ?_; (with_reducible refine (spec_RectangleByExclusion.calls k a0 a1 a2 a3 t245 t246 _ A5.out).mono ?_); rintro e w13 ⟨rfl, hb⟩; refine ⟨_, rfl, ?_⟩; have n0_ := Aside0.mk (below_step (by repeat (first | (with_reducible first | exact HB.out | apply below_alloc | apply pw_below_drewN | apply below_drew1) | exact HB.out)) hb); clear HB; have HB := n0_; clear n0_; (try clear hb); (try clear hb2); (try clear hk); (try clear hi)) | ((with_reducible refine gate_callee (f := 13) rfl ?_); refine goesL_ (some 26) rfl rfl Tryd.func13 (by kernel_rfl) rfl #[.int .i64 a0, .int .i64 a1, .int .i64 a2, .int .i64 a3] rfl (by (try simp only [List.map_toArray, List.map_cons, List.map_nil]); first | done | rfl | (simp only [List.length_drop, List.length_take]; rfl)) ?_; (with_reducible refine (impl_RectangleByExclusion.calls k a0 a1 a2 a3 t247 t248 _ (by repeat (first | exact HLaid32_.out | exact Laid32.below HLaid32_.out HB.out | exact Laid32.below HLaid32_.out (Drawn0.below ⟨⟨_, rfl⟩⟩) | apply Laid32.drew)) A6.out).mono ?_); rintro e w14 ⟨rfl, hb⟩; refine ⟨_, rfl, ?_⟩; have n0_ := Aside0.mk (below_step (by repeat (first | (with_reducible first | exact HB.out | apply below_alloc | apply pw_below_drewN | apply below_drew1) | exact HB.out)) hb); clear HB; have HB := n0_; clear n0_; (try clear hb); (try clear hb2); (try clear hk); (try clear hi)))
    go_ret
    exact ⟨by first | rfl | (simp [errW_none, errW_some] <;> rfl) | (simp [*, errW_none, errW_some] <;> rfl), by repeat (first | (with_reducible first | exact HB.out | apply below_alloc | apply pw_below_drewN | apply below_drew1) | exact HB.out)⟩

/-- THE ONE PURE STATEMENT of laws_FnExactRectangleByExclusion: yours. -/
def laws_FnExactRectangleByExclusion.Pure : Prop := ∀ (a0 : Int) (a1 : Int) (a2 : Int) (a3 : Int), (Lit.int .i64 a0).wf = true → (Lit.int .i64 a1).wf = true → (Lit.int .i64 a2).wf = true → (Lit.int .i64 a3).wf = true → ∃ k, laws_FnExactRectangleByExclusion.f k a0 a1 a2 a3 = some true
theorem laws_FnExactRectangleByExclusion.walk (P : laws_FnExactRectangleByExclusion.Pure) (a0 : Int) (a1 : Int) (a2 : Int) (a3 : Int) (w : World) (hLaid32_ : Laid32 w) (w0 : (Lit.int .i64 a0).wf = true) (w1 : (Lit.int .i64 a1).wf = true) (w2 : (Lit.int .i64 a2).wf = true) (w3 : (Lit.int .i64 a3).wf = true) :
    Calls Tryd.prog 5 #[.int .i64 a0, .int .i64 a1, .int .i64 a2, .int .i64 a3] w fun e w' => e = .returned (.bool true) ∧ Below w.heap.size w w' := by
  obtain ⟨k, h⟩ := P a0 a1 a2 a3 w0 w1 w2 w3
  refine (laws_FnExactRectangleByExclusion.calls k a0 a1 a2 a3 true w hLaid32_ h).mono ?_
  rintro e w' ⟨rfl, hd⟩
  exact ⟨rfl, hd⟩

end Go.Proofs.YtdgglnjegkmamaaDoor.QFnExactRectangleByExclusion
