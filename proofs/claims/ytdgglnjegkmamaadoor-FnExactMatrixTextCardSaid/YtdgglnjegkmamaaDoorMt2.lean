/- MatrixText, the program's: the rows' texts are gathered and joined. No condition but the lengths, the kinds' bounds, the library's table and what the rows' texts are. -/
import Derived.Test.YtdgglnjegkmamaaDoorMt
set_option linter.unusedVariables false
set_option linter.unusedSimpArgs false
namespace Go.Proofs.YtdgglnjegkmamaaDoor.Mx
open Go.RowKit Go.Proofs.YtdgglnjegkmamaaDoor.Arr Go.Proofs.YtdgglnjegkmamaaDoorW.PrintWords Go.Proofs.YtdgglnjegkmamaaDoorW.PrintLast Go.Proofs.YtdgglnjegkmamaaDoorW.PrintMore Go.Proofs.YtdgglnjegkmamaaDoor.QFnExactMatrixText

/-- Within the loop: the matrix's box and the list that is gathered. -/
structure MS (w W : World) (o : Obj) (v : Value) (L : List ByteArray) : Prop where
  hB : Below w.heap.size w W
  hG : W.heap[w.heap.size]? = some o
  hL : Kd.R Kd.string 9 W w.heap.size (fun k => w.heap.size < k) v L
theorem MS.drewN {w W : World} {o : Obj} {v : Value} {L : List ByteArray} (h : MS w W o v L) (n : Nat) : MS w (W.drewN n) o v L :=
  ⟨pw_below_drewN h.hB n, h.hG, Kd.R_drewN h.hL n⟩
theorem MS.below {w W W' : World} {o : Obj} {v : Value} {L : List ByteArray} (h : MS w W o v L) (hb : Below W.heap.size W W') : MS w W' o v L :=
  ⟨h.hB.trans (hb.mono h.hB.size), (hb.block _ (lt_of_block h.hG)).trans h.hG, Kd.R_below h.hL hb⟩
theorem MS.begun {w W : World} {o : Obj} (h : Bx w W o) : MS w (W.alloc (.cells #[] 9)) o (.slice (some ⟨W.heap.size, 0, none⟩) 0 0) [] := by
  have hlt := h.size
  refine ⟨below_alloc h.hb _, (heap_lo _ _ _ hlt).trans h.hg, ?_⟩
  exact ⟨fun k hk => by
    have e : W.heap.size = k := by simpa [Value.ownBlock] using hk
    omega, [], ⟨rfl, .inr ⟨W.heap.size, 0, #[], rfl, h.hb.size, heap_at _ _ _ rfl, Nat.le_refl _, Nat.zero_le _, rfl, rfl⟩⟩, Reps.none _ _⟩
theorem MS.app {w W w1 : World} {o : Obj} {v v1 : Value} {L L' : List ByteArray} (h : MS w W o v L) (ho : Kd.R Kd.string 9 w1 w.heap.size (fun k => w.heap.size < k) v1 L') (hb : Below w.heap.size w w1) (hg : W.grownBy w1 v.ownBlock) : MS w w1 o v1 L' := by
  refine ⟨hb, (hg.block _ (lt_of_block h.hG) (fun e => ?_)).trans h.hG, ho⟩
  have := h.hL.1 _ e.symm
  omega
theorem nimsT (k : Nat) (A : Option Addr) (c0 n : Nat) (l0 : List Int) (r : ByteArray) (w : World) (hn : l0.length = n) (hc : l0.length ≤ c0) (hp : LaidPow w) (hr : Kd.C (Kd.int .u16) w A l0.length l0) (h : impl_nimsText.f k l0 = some r) :
    Calls Tryd.prog 18 #[.slice A n c0] w fun e w' => e = .returned (.string r) ∧ Below w.heap.size w w' := by
  subst hn
  exact impl_nimsText.calls k A c0 l0 r w hr hc hp h
theorem joinC (A : Option Addr) (c0 n : Nat) (l0 : List ByteArray) (s r : ByteArray) (w : World) (hn : l0.length = n) (hr : Kd.C Kd.string w A l0.length l0) (hc : l0.length ≤ c0) (h : strings_Join.f l0 s = some r) :
    Calls Tryd.prog 19 #[.slice A n c0, .string s] w fun e w' => e = .returned (.string r) ∧ Below w.heap.size w w' := by
  subst hn
  exact strings_Join.calls A c0 l0 s r w hr hc h
theorem info9s : (Tryd.prog.info? 9).map (fun i => (i.zero, i.size, i.bytes)) = some (some (.string ⟨#[]⟩), 1, 16) := by kernel_rfl
theorem texts_snoc (T : Nat → ByteArray) (n : Nat) : (List.range (n + 1)).map T = (List.range n).map T ++ [T n] := by rw [List.range_succ, List.map_append]; rfl
theorem i8_next (n : Nat) (h : n < 6) : IntKind.i8.wrap ((n : Int) + 1) = (n : Int) + 1 := by
  have : n = 0 ∨ n = 1 ∨ n = 2 ∨ n = 3 ∨ n = 4 ∨ n = 5 := by omega
  rcases this with rfl | rfl | rfl | rfl | rfl | rfl <;> decide
theorem implMT_no (r c : Int) (l : List Int) (hl : l.length = 36) (hb : I8 r c) (ho : okM r c l = false) (w : World) :
    Calls Tryd.prog 8 #[.agg (mat r c l)] w fun e w' => e = .returned (.string ⟨#[]⟩) ∧ Below w.heap.size w w' := by
  have HS := Aside0.mk (mat_size r c l hl)
  have HE := Aside0.mk (extract_all HS.out)
  have HG := Aside0.mk (heap_at w (.cells (mat r c l) 33) _ rfl)
  go_enter Tryd.func8, Tryd.ntmps8
  go_wp2_with (first
    | (refine wpList_load_row rfl 33 _ rfl w.heap.size rfl 33 _ (0, 0) _ HG.out Tryd.underlying33 rfl (size33.trans (congrArg some HS.out.symm)) ?_)
    | (go_at_call 17; refine (implValid r c l hl hb _).mono ?_; rw [ho]; rintro e w1 ⟨rfl, hb1⟩; have HB1 := Aside0.mk (below_step (below_alloc (Below.refl _ _) _) hb1); clear hb1))
  go_ret
  exact ⟨rfl, HB1.out⟩
set_option maxHeartbeats 1600000 in
set_option maxRecDepth 100000 in
theorem implMT_yes (k R C : Nat) (l : List Int) (T : Nat → ByteArray) (S : ByteArray) (hl : l.length = 36) (hR : 1 ≤ R ∧ R ≤ 6) (hC : 1 ≤ C ∧ C ≤ 6) (ho : okM R C l = true) (hT : ∀ i, i < R → impl_nimsText.f k (cut l C i) = some (T i)) (hJ : strings_Join.f ((List.range R).map T) ⟨#[59]⟩ = some S) (w : World) (hp : LaidPow w) :
    Calls Tryd.prog 8 #[.agg (mat R C l)] w fun e w' => e = .returned (.string S) ∧ Below w.heap.size w w' := by
  have hb : I8 (R : Int) (C : Int) := ⟨by omega, by omega, by omega, by omega⟩
  have HS := Aside0.mk (mat_size R C l hl)
  have HG := Aside0.mk (heap_at w (.cells (mat R C l) 33) _ rfl)
  have HT := Aside0.mk hT
  have HJ := Aside0.mk hJ
  have HP := Aside0.mk hp
  have HL := Aside0.mk hl
  have HR := Aside0.mk hR
  have HC := Aside0.mk hC
  have HV := Aside0.mk (fun W => implValid R C l hl hb W)
  have HO := Aside0.mk ho
  clear hl hR hC ho hT hJ hp hb
  go_enter Tryd.func8, Tryd.ntmps8
  go_wp2_with (first
    | (refine wpList_load_row rfl 33 _ rfl w.heap.size rfl 33 _ (0, 0) _ HG.out Tryd.underlying33 rfl (size33.trans (congrArg some HS.out.symm)) ?_)
    | (go_at_call 17; refine (HV.out _).mono ?_; rw [HO.out]; rintro e w1 ⟨rfl, hb1⟩; have HM := Aside0.mk (MS.begun ((Bx.start w (.cells (mat R C l) 33)).step hb1)); have c0 := mat_cell0 HM.out.hG; clear hb1))
  clear c0
  generalize w1.alloc (.cells #[] 9) = wz at HM ⊢
  generalize w1.heap.size = gz at HM ⊢
  go_loopw [3, 11] (fun v3 v11 w' => ∃ n : Nat, n ≤ R ∧ v11 = .int .i8 n ∧ Aside0 (MS w w' (.cells (mat R C l) 33) v3 ((List.range n).map T))) (fun v3 v11 w' => R - (intOf v11).toNat)
  case atStart => exact ⟨0, Nat.zero_le _, rfl, HM⟩
  case round =>
    clear HM
    obtain ⟨n, hn, rfl, HM⟩ := hrel
    have c1 := mat_cell1 HM.out.hG
    have hC2 : (0 : Int) ≤ (C : Int) ∧ (C : Int) ≤ 6 := by have := HC.out; omega
    have hR2 : (R : Int) ≤ 6 := by have := HR.out; omega
    by_cases hlt : n < R
    · have hn6 : (n : Int) < 6 := by omega
      have hw8 := i8_next n (by omega)
      have hlen := cut_len l HL.out C n (by omega) (by omega)
      have LE := Aside0.mk (fun W (hb : Below wr.heap.size wr W) => nimsT k (some ⟨w.heap.size, 2 + n * 6, none⟩) 6 C (cut l C n) (T n) W hlen (by omega) (LaidPow.below HP.out (HM.out.hB.trans (hb.mono HM.out.hB.size))) (Kd.C_below (cut_C HM.out.hG C n (by omega)) hb) (HT.out n hlt))
      clear hlen
      go_wp2_with fail
      -- REGION7
      refine start_ (n := 11) (S := fun w' => w'.cell? ⟨w.heap.size, 1, none⟩ = some (.int .i8 (C : Int))) (ds := [7, 8, 9]) #[false, false, false, false, false, false, false, false, false, false, false] (by kernel_rfl) rfl rfl c1 (fun hHeld => ?_)
      have HMd := Aside0.mk (HM.out.below (below_drew1 (Below.refl _ _)))
      have LE2 := Aside0.mk (fun W (hb : Below wr.drew.heap.size wr.drew W) => LE.out W (below_step (below_drew1 (Below.refl _ _)) hb))
      clear LE HM
      generalize wr.drew = wd at HMd LE2 hHeld ⊢
      refine pure_ (i := 0) (N := some 14) (v := ?_) (a' := ?_) #[true, false, false, false, false, false, false, false, false, false, false] rfl rfl (by kernel_rfl) (fun _ _ _ h => h) (Or.inl ⟨by rfl, ?_⟩) ?_ ?_
      rotate_left
      · intro w'
        go_simp
        with_reducible rfl
      rotate_left
      · simp only [Act.put, List.setIfInBounds_toArray, List.set_cons_zero, List.set_cons_succ, i64_w, i32_w]
        rfl
      refine pure_ (i := 1) (N := some 15) (v := ?_) (a' := ?_) #[true, true, false, false, false, false, false, false, false, false, false] rfl rfl (by kernel_rfl) (fun _ _ _ h => h) (Or.inl ⟨by rfl, ?_⟩) ?_ ?_
      rotate_left
      · intro w'
        go_simp
        with_reducible rfl
      rotate_left
      · simp only [Act.put, List.setIfInBounds_toArray, List.set_cons_zero, List.set_cons_succ, i64_w, i32_w]
        rfl
      refine pure_ (i := 2) (N := some 16) (v := ?_) (a' := ?_) #[true, true, true, false, false, false, false, false, false, false, false] rfl rfl (by kernel_rfl) (fun _ _ _ h => h) (Or.inl ⟨by rfl, ?_⟩) ?_ ?_
      rotate_left
      · intro w'
        go_simp
        with_reducible rfl
      rotate_left
      · simp only [Act.put, List.setIfInBounds_toArray, List.set_cons_zero, List.set_cons_succ, i64_w, i32_w]
        rfl
      refine pure_ (i := 4) (N := some 18) (v := ?_) (a' := ?_) #[true, true, true, false, true, false, false, false, false, false, false] rfl rfl (by kernel_rfl) (fun _ _ _ h => h) (Or.inl ⟨by rfl, ?_⟩) ?_ ?_
      rotate_left
      · intro w'
        go_simp
        with_reducible rfl
      rotate_left
      · simp only [Act.put, List.setIfInBounds_toArray, List.set_cons_zero, List.set_cons_succ, i64_w, i32_w]
        rfl
      refine pure_ (i := 3) (N := some 17) (v := ?_) (a' := ?_) #[true, true, true, true, true, false, false, false, false, false, false] rfl rfl (by kernel_rfl) (fun _ _ _ h => h) (Or.inl ⟨by rfl, ?_⟩) ?_ ?_
      rotate_left
      · intro w'
        go_simp
        with_reducible rfl
      rotate_left
      · simp only [Act.put, List.setIfInBounds_toArray, List.set_cons_zero, List.set_cons_succ, i64_w, i32_w]
        rfl
      refine take_ (i := 5) (N := some 19) (v := ?_) (a' := ?_) #[true, true, true, true, true, true, false, false, false, false, false] rfl rfl (by kernel_rfl) (fun _ _ _ h => h) (Or.inl ⟨by rfl, ?_⟩) hHeld ?_ ?_
      rotate_left
      · intro w' s0
        go_simp
        with_reducible rfl
      rotate_left
      · simp only [Act.put, List.setIfInBounds_toArray, List.set_cons_zero, List.set_cons_succ, i64_w, i32_w]
        rfl
      refine pure_ (i := 6) (N := some 20) (v := ?_) (a' := ?_) #[true, true, true, true, true, true, true, false, false, false, false] rfl rfl (by kernel_rfl) (fun _ _ _ h => h) (Or.inl ⟨by rfl, ?_⟩) ?_ ?_
      rotate_left
      · intro w'
        go_simp
        with_reducible rfl
      rotate_left
      · simp only [Act.put, List.setIfInBounds_toArray, List.set_cons_zero, List.set_cons_succ, i64_w, i32_w]
        rfl
      refine last_ (i := 7) (N := some 21) #[true, true, true, true, true, true, true, true, false, false, false] rfl rfl (by kernel_rfl) (by decide) (fun K hK => ?_)
      refine goes_ Tryd.func18 (by kernel_rfl) rfl #[.slice (some ⟨w.heap.size, 2 + n * 6, none⟩) C 6] (by rfl) rfl rfl (by (try simp only [List.map_toArray, List.map_cons, List.map_nil]); first | done | rfl) ?_
      refine (LE2.out _ (Below.refl _ _)).mono ?_
      rintro e w5 ⟨rfl, hb5⟩
      refine ⟨_, rfl, ?_⟩
      have HM5 := Aside0.mk (HMd.out.below hb5)
      clear hb5 HMd LE2 hHeld c1
      refine hK.out _ _ ?_
      clear hK K
      refine norm_ (a' := ?_) ?_ ?_
      rotate_left
      · show Act.put _ (some 21) _ = _
        simp only [Act.put, List.setIfInBounds_toArray, List.set_cons_zero, List.set_cons_succ, i64_w, i32_w]
        rfl
      refine last_ (i := 8) (N := some 22) #[true, true, true, true, true, true, true, true, true, false, false] rfl rfl (by kernel_rfl) (by decide) (fun K hK => ?_)
      refine value_ (w1 := ?_) (v := ?_) (by rfl) rfl ?_ ?_
      rotate_left 2
      · go_simp
        constructor
        · rfl
        · rfl
      refine hK.out _ _ ?_
      clear hK K
      refine norm_ (a' := ?_) ?_ ?_
      rotate_left
      · show Act.put _ (some 22) _ = _
        simp only [Act.put, List.setIfInBounds_toArray, List.set_cons_zero, List.set_cons_succ, i64_w, i32_w]
        rfl
      refine last_ (i := 9) (N := some 23) #[true, true, true, true, true, true, true, true, true, true, false] rfl rfl (by kernel_rfl) (by decide) (fun K hK => ?_)
      refine Kd.R_append_step Kd.string (w0 := w) w.heap.size (by rfl) (.tmp 14) (.tmp 22) 48 9 (.string ⟨#[]⟩) 16 rfl Tryd.underlying48 info9s rfl (by decide) (by omega) _ ((List.range n).map T) (T n) [.string (T n)] (fun k_ => w.heap.size < k_) (fun _ => False) rfl rfl ?aP (fun _ hk => hk.elim) ?aF ?aO ?aB ?aS ?aL ?_
      (case aP => exact rfl)
      (case aB => exact HM5.out.hB)
      (case aF => exact fun k_ hk_ => Nat.lt_of_lt_of_le (lt_of_block HM5.out.hG) hk_)
      (case aO => exact HM5.out.hL)
      (case aS => exact HM5.out.hB.size)
      (case aL => rw [List.length_map, List.length_range]; omega)
      intro v1 w6 ho hb hg hat
      rw [← texts_snoc] at ho
      have HM6 := Aside0.mk (HM5.out.app ho hb hg)
      clear ho hb hg hat HM5
      refine hK.out _ _ ?_
      clear hK K
      refine norm_ (a' := ?_) ?_ ?_
      rotate_left
      · show Act.put _ (some 23) _ = _
        simp only [Act.put, List.setIfInBounds_toArray, List.set_cons_zero, List.set_cons_succ, i64_w, i32_w]
        rfl
      refine pure_ (i := 10) (N := some 3) (v := ?_) (a' := ?_) #[true, true, true, true, true, true, true, true, true, true, true] rfl rfl (by kernel_rfl) (fun _ _ _ h => h) (Or.inl ⟨by rfl, ?_⟩) ?_ ?_
      rotate_left
      · intro w'
        go_simp
        with_reducible rfl
      rotate_left
      · simp only [Act.put, List.setIfInBounds_toArray, List.set_cons_zero, List.set_cons_succ, i64_w, i32_w]
        rfl
      refine done_ (by kernel_rfl) ?_
      try go_wp2
      -- END7
      exact ⟨⟨n + 1, by omega, by go_num, HM6⟩, by simp [intOf]; omega⟩
    · obtain rfl : n = R := by omega
      obtain ⟨A3, c3, e3⟩ := Kd.R_slice HM.out.hL
      subst e3
      rw [List.length_map, List.length_range]
      have hm := Kd.R_reads' HM.out.hL
      have LJ := Aside0.mk (fun W (hb : Below wr.heap.size wr W) => joinC A3 c3 n ((List.range n).map T) ⟨#[59]⟩ S W (by rw [List.length_map, List.length_range]) (Kd.C_below hm.2.2 hb) hm.2.1 HJ.out)
      have HB := Aside0.mk HM.out.hB
      clear hm HM
      go_wp2_with (go_at_call 19; refine (LJ.out _ (by repeat (first | exact Below.refl _ _ | apply pw_below_drewN | apply below_drew1))).mono ?_; rintro e w5 ⟨rfl, hb5⟩; have HB5 := Aside0.mk (HB.out.trans ((below_step (by repeat (first | exact Below.refl _ _ | apply pw_below_drewN | apply below_drew1)) hb5 : Below wr.heap.size wr w5).mono HB.out.size)); clear hb5)
      go_ret
      exact ⟨rfl, HB5.out⟩
end Go.Proofs.YtdgglnjegkmamaaDoor.Mx
