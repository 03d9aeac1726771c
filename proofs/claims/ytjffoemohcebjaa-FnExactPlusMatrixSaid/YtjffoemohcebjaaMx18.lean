/- PlusMatrix's law. No condition but the lengths and the kinds' bounds. -/
import Derived.Test.YtjffoemohcebjaaMx16
import Derived.Deep.RegionHeld
set_option linter.unusedVariables false
set_option linter.unusedSimpArgs false
namespace Go.Proofs.Ytjffoemohcebjaa.Mx
open Go.RowKit Go.Proofs.Ytjffoemohcebjaa.Arr Go.Proofs.YtjffoemohcebjaaW.PrintWords Go.Proofs.YtjffoemohcebjaaW.PrintLast

theorem region_law {P : Program} {id : Nat} {ops : Array Oper} {Q : Exit → Act → World → Prop} {a : Act} {w0 : World} (S : World → Prop) (A : Nat → Act) (G : Nat → World → Prop) (hm : P.follows .mixedOrders = true) (hS : S w0.drew)
    (hkey : ∀ n w', G n w' → Q .normal (A n) w') (h : ∀ W, S W → (∀ n w', G n w' → Q .normal (A n) w') → wpAnyH P .any ops Q S ops.size (Array.replicate ops.size false) a W) : (Code.region id ops true).wp P Q a w0 :=
  wp_region_held hm (h _ hS hkey)
theorem exec_load_row {P : Program} {o : Oper} {a : Act} {w : World} (ty : TypeId) (x : Operand) (ho : o.op = .load ty x)
    (g : Nat) (hx : a.eval x = .pointer (some ⟨g, 0, none⟩)) (t : TypeId) (cs : Array Value) (fr : Nat × Nat) (d : TypeDesc) (hg : w.heap[g]? = some (.cells cs t fr))
    (hu : P.underlying ty = some d) (hd : (match d with | .struct _ | .array _ _ => true | _ => false) = true) (hi : (P.info? ty).map (·.size) = some cs.size) : (execOp a.eval o).run P w = .ok (.value (.agg cs)) w := by
  unfold execOp
  simp only [ho, hx, Instr.loadAt, Instr.sureAddr, Sem.run_bind, Sem.run_pure, Result.andThen_ok, run_loadVar_row w g t ty cs fr d hg hu hd hi]
/-- What stands over a drawn region of the law: two boxes, and what further block is kept. -/
structure SL (w : World) (o1 o2 : Obj) (k : Option Nat) (o3 : Obj) (w' : World) : Prop where
  hx : Bx2 w w' o1 o2
  hk : ∀ b, k = some b → w'.heap[b]? = some o3
theorem SL.step {w o1 o2 k o3 w' w2} (h : SL w o1 o2 k o3 w') (hb : Below w'.heap.size w' w2) : SL w o1 o2 k o3 w2 := ⟨h.hx.step hb, fun b e => keep_step (h.hk b e) hb⟩
theorem SL.alloc {w o1 o2 k o3 w'} (h : SL w o1 o2 k o3 w') (o : Obj) : SL w o1 o2 k o3 (w'.alloc o) := h.step (below_alloc (Below.refl _ _) _)
/-- The new block, among what stands. -/
structure NB (w : World) (k : Option Nat) (n : Nat) (w' : World) (o : Obj) : Prop where
  h1 : w.heap.size + 1 < n
  h2 : ∀ b, k = some b → b ≠ n
  hg : w'.heap[n]? = some o
theorem NB.step {w k n w' o w2} (h : NB w k n w' o) (hb : Below w'.heap.size w' w2) : NB w k n w2 o := ⟨h.h1, h.h2, keep_step h.hg hb⟩
theorem NB.start {w o1 o2 k o3 w'} (h : SL w o1 o2 k o3 w') (o : Obj) : NB w k w'.heap.size (w'.alloc o) o :=
  ⟨h.hx.size, fun b e => Nat.ne_of_lt (Array.getElem?_eq_some_iff.1 (h.hk b e)).1, heap_at _ _ _ rfl⟩
theorem SL.put {w o1 o2 k o3 w' n o} (h : SL w o1 o2 k o3 w') (hn : NB w k n w' o) (T : Array Value) : SL w o1 o2 k o3 (w'.setRow n T) :=
  have q := hn.h1
  ⟨⟨below_setRow h.hx.hb (by omega) _, by rw [setRow_other _ _ _ _ (by omega)]; exact h.hx.h1, by rw [setRow_other _ _ _ _ (by omega)]; exact h.hx.h2⟩, fun b e => by rw [setRow_other _ _ _ _ (hn.h2 b e)]; exact h.hk b e⟩
set_option maxHeartbeats 4000000 in
set_option maxRecDepth 100000 in
theorem law_PlusMatrix (r c : Int) (a : List Int) (ha : a.length = 36) (hb : I8 r c) (hx : ∀ x ∈ a, 0 ≤ x ∧ x ≤ 65535) (r' c' : Int) (b : List Int) (hb' : b.length = 36) (hi' : I8 r' c') (hx' : ∀ x ∈ b, 0 ≤ x ∧ x ≤ 65535) (w : World) :
    Calls Try.prog 7 #[.agg (mat r c a), .agg (mat r' c' b)] w fun e w' => e = .returned (.bool true) ∧ Below w.heap.size w w' := by
  have HL := Aside0.mk ha
  have HL' := Aside0.mk hb'
  have HS1 := Aside0.mk (mat_size r c a ha)
  have HS2 := Aside0.mk (mat_size r' c' b hb')
  have HX := Aside0.mk (Bx2.start w (.cells (mat r c a) 27) (.cells (mat r' c' b) 27))
  have H1 := Aside0.mk (specPlus r c a ha hb r' c' b hb' hi')
  have H2 := Aside0.mk (implPlus r c a ha hb r' c' b hb' hi')
  have HE := Aside0.mk (eqM (plusR r c a r' c' b) (plusC r c a r' c' b) (plusM r c a r' c' b) (plusM_len r c a r' c' b))
  have HNT := Aside0.mk (mat_size (plusR r c a r' c' b) (plusC r c a r' c' b) (plusM r c a r' c' b) (plusM_len r c a r' c' b))
  have HA := Aside0.mk (mat_all (plusR r c a r' c' b) (plusC r c a r' c' b) (plusM r c a r' c' b))
  clear ha hb hx hb' hi' hx'
  generalize mat (plusR r c a r' c' b) (plusC r c a r' c' b) (plusM r c a r' c' b) = T at H1 H2 HE HNT HA
  generalize plusE r c a r' c' b = q at H1 H2
  have hz := zero33
  go_enter Try.func7, Try.ntmps7
  go_wp2_with fail
  refine region_law (SL w (.cells (mat r c a) 27) (.cells (mat r' c' b) 27) none (.cells T 33)) (fun n_ => { tmps := #[.agg (mat r c a), .agg (mat r' c' b), .pointer (some ⟨w.heap.size, 0, none⟩), .pointer (some ⟨w.heap.size + 1, 0, none⟩), .bool false, .pointer (some ⟨n_, 0, none⟩), .int .i64 q, undef, undef, .tuple #[.agg T, .int .i64 q], .agg (mat r c a), .agg (mat r c a), .agg (mat r' c' b), .agg (mat r' c' b), .tuple #[.agg T, .int .i64 q], .agg T, .int .i64 q, undef, undef, undef, undef, undef, undef, undef, undef, undef, undef, undef, undef, undef, undef, undef, undef, undef], defers := [] }) (fun n_ w_ => (SL w (.cells (mat r c a) 27) (.cells (mat r' c' b) 27) none (.cells T 33)) w_ ∧ w_.heap[n_]? = some (.cells T 33)) (by kernel_rfl) ⟨HX.out.drewN 1, fun _ e_ => by cases e_⟩ ?key1 ?reg1
  case reg1 =>
    intro W hS0 HK0
    have HS := Aside0.mk hS0
    have HK := Aside0.mk HK0
    clear hS0 HK0
    refine wpAnyH_takeD (i := 0) (v := .agg (mat r c a)) (some 10) rfl rfl (by kernel_rfl) (by kernel_rfl) (by kernel_rfl) (fun _ _ _ h => h) (.inl ⟨rfl, fun w1_ h1_ => exec_load_row 27 (.tmp 2) rfl w.heap.size rfl 27 _ (0, 0) _ h1_.hx.h1 Try.underlying27 rfl (size27.trans (congrArg some HS1.out.symm))⟩) HS.out ?_
    simp only [Act.put, List.setIfInBounds_toArray, List.set_cons_zero, List.set_cons_succ]
    refine wpAnyH_takeD (i := 2) (v := .agg (mat r' c' b)) (some 12) rfl rfl (by kernel_rfl) (by kernel_rfl) (by kernel_rfl) (fun _ _ _ h => h) (.inl ⟨rfl, fun w1_ h1_ => exec_load_row 27 (.tmp 3) rfl (w.heap.size + 1) rfl 27 _ (0, 0) _ h1_.hx.h2 Try.underlying27 rfl (size27.trans (congrArg some HS2.out.symm))⟩) HS.out ?_
    simp only [Act.put, List.setIfInBounds_toArray, List.set_cons_zero, List.set_cons_succ]
    refine wpAnyH_ready (rs := [1, 8]) (by kernel_rfl) (by simp) (AllReadyH.cons rfl (fun K_ hK_ => ?_) (AllReadyH.cons rfl (fun K_ hK_ => ?_) AllReadyH.nil))
    · go_simp
      go_at_call 12
      refine (toM r c a HL.out _).mono ?_
      rintro e_ w0_ ⟨rfl, hb_⟩
      replace HS := Aside0.mk (HS.out.step hb_)
      clear hb_
      refine hK_.out _ _ HS.out (fun _ => ?_)
      clear hK_ K_
      try simp only [Act.put, List.setIfInBounds_toArray, List.set_cons_zero, List.set_cons_succ]
      refine wpAnyH_ready (rs := [3, 8]) (by kernel_rfl) (by simp) (AllReadyH.cons rfl (fun K_ hK_ => ?_) (AllReadyH.cons rfl (fun K_ hK_ => ?_) AllReadyH.nil))
      · go_simp
        go_at_call 12
        refine (toM r' c' b HL'.out _).mono ?_
        rintro e_ w1_ ⟨rfl, hb_⟩
        replace HS := Aside0.mk (HS.out.step hb_)
        clear hb_
        refine hK_.out _ _ HS.out (fun _ => ?_)
        clear hK_ K_
        try simp only [Act.put, List.setIfInBounds_toArray, List.set_cons_zero, List.set_cons_succ]
        refine wpAnyH_ready (rs := [4, 8]) (by kernel_rfl) (by simp) (AllReadyH.cons rfl (fun K_ hK_ => ?_) (AllReadyH.cons rfl (fun K_ hK_ => ?_) AllReadyH.nil))
        · go_simp
          go_at_call 21
          refine (H1.out _).mono ?_
          rintro e_ w2_ ⟨rfl, hb_⟩
          replace HS := Aside0.mk (HS.out.step hb_)
          clear hb_
          refine hK_.out _ _ HS.out (fun _ => ?_)
          clear hK_ K_
          try simp only [Act.put, List.setIfInBounds_toArray, List.set_cons_zero, List.set_cons_succ]
          refine wpAnyH_takeD (i := 5) (v := .tuple #[.agg T, .int .i64 q]) (some 9) rfl rfl (by kernel_rfl) (by kernel_rfl) (by kernel_rfl) (fun _ _ _ h => h) (.inl ⟨rfl, fun _ _ => by go_simp⟩) HS.out ?_
          simp only [Act.put, List.setIfInBounds_toArray, List.set_cons_zero, List.set_cons_succ]
          refine wpAnyH_takeD (i := 6) (v := .agg T) (some 15) rfl rfl (by kernel_rfl) (by kernel_rfl) (by kernel_rfl) (fun _ _ _ h => h) (.inl ⟨rfl, fun _ _ => by go_simp⟩) HS.out ?_
          simp only [Act.put, List.setIfInBounds_toArray, List.set_cons_zero, List.set_cons_succ]
          refine wpAnyH_takeD (i := 7) (v := .int .i64 q) (some 16) rfl rfl (by kernel_rfl) (by kernel_rfl) (by kernel_rfl) (fun _ _ _ h => h) (.inl ⟨rfl, fun _ _ => by go_simp⟩) HS.out ?_
          simp only [Act.put, List.setIfInBounds_toArray, List.set_cons_zero, List.set_cons_succ]
          refine wpAnyH_ready (rs := [8]) (by kernel_rfl) (by simp) (AllReadyH.cons rfl (fun K_ hK_ => ?_) AllReadyH.nil)
          · go_simp
            have HN := Aside0.mk (NB.start HS.out (.cells (mat 0 0 z36) 33))
            replace HS := Aside0.mk (HS.out.alloc (.cells (mat 0 0 z36) 33))
            refine hK_.out _ _ HS.out (fun _ => ?_)
            clear hK_ K_
            try simp only [Act.put, List.setIfInBounds_toArray, List.set_cons_zero, List.set_cons_succ]
            refine wpAnyH_ready (rs := [9]) (by kernel_rfl) (by simp) (AllReadyH.cons rfl (fun K_ hK_ => ?_) AllReadyH.nil)
            rw [if_pos (by rfl)]
            refine wp_store_row 33 (.tmp 5) (.tmp 15) rfl _ T rfl rfl 33 _ HN.out.hg (size33.trans (congrArg some HNT.out.symm)) (zsize.trans HNT.out.symm) HA.out ?_
            have HT_ := Aside0.mk (heap_setRow_same (cs := T) HN.out.hg)
            replace HS := Aside0.mk (HS.out.put HN.out T)
            refine hK_.out _ _ HS.out (fun _ => ?_)
            clear hK_ K_
            try simp only [Act.put, List.setIfInBounds_toArray, List.set_cons_zero, List.set_cons_succ]
            refine wpAnyH_takeD (i := 10) (v := .int .i64 q) (some 6) rfl rfl (by kernel_rfl) (by kernel_rfl) (by kernel_rfl) (fun _ _ _ h => h) (.inl ⟨rfl, fun _ _ => by go_simp⟩) HS.out ?_
            simp only [Act.put, List.setIfInBounds_toArray, List.set_cons_zero, List.set_cons_succ]
            exact wpAnyH_done (by kernel_rfl) (HK.out _ _ ⟨HS.out, HT_.out⟩) _
        · go_simp
          have HN := Aside0.mk (NB.start HS.out (.cells (mat 0 0 z36) 33))
          replace HS := Aside0.mk (HS.out.alloc (.cells (mat 0 0 z36) 33))
          refine hK_.out _ _ HS.out (fun _ => ?_)
          clear hK_ K_
          try simp only [Act.put, List.setIfInBounds_toArray, List.set_cons_zero, List.set_cons_succ]
          refine wpAnyH_ready (rs := [4]) (by kernel_rfl) (by simp) (AllReadyH.cons rfl (fun K_ hK_ => ?_) AllReadyH.nil)
          · go_simp
            go_at_call 21
            refine (H1.out _).mono ?_
            rintro e_ w2_ ⟨rfl, hb_⟩
            replace HS := Aside0.mk (HS.out.step hb_)
            replace HN := Aside0.mk (HN.out.step hb_)
            clear hb_
            refine hK_.out _ _ HS.out (fun _ => ?_)
            clear hK_ K_
            try simp only [Act.put, List.setIfInBounds_toArray, List.set_cons_zero, List.set_cons_succ]
            refine wpAnyH_takeD (i := 5) (v := .tuple #[.agg T, .int .i64 q]) (some 9) rfl rfl (by kernel_rfl) (by kernel_rfl) (by kernel_rfl) (fun _ _ _ h => h) (.inl ⟨rfl, fun _ _ => by go_simp⟩) HS.out ?_
            simp only [Act.put, List.setIfInBounds_toArray, List.set_cons_zero, List.set_cons_succ]
            refine wpAnyH_takeD (i := 6) (v := .agg T) (some 15) rfl rfl (by kernel_rfl) (by kernel_rfl) (by kernel_rfl) (fun _ _ _ h => h) (.inl ⟨rfl, fun _ _ => by go_simp⟩) HS.out ?_
            simp only [Act.put, List.setIfInBounds_toArray, List.set_cons_zero, List.set_cons_succ]
            refine wpAnyH_takeD (i := 7) (v := .int .i64 q) (some 16) rfl rfl (by kernel_rfl) (by kernel_rfl) (by kernel_rfl) (fun _ _ _ h => h) (.inl ⟨rfl, fun _ _ => by go_simp⟩) HS.out ?_
            simp only [Act.put, List.setIfInBounds_toArray, List.set_cons_zero, List.set_cons_succ]
            refine wpAnyH_ready (rs := [9]) (by kernel_rfl) (by simp) (AllReadyH.cons rfl (fun K_ hK_ => ?_) AllReadyH.nil)
            rw [if_pos (by rfl)]
            refine wp_store_row 33 (.tmp 5) (.tmp 15) rfl _ T rfl rfl 33 _ HN.out.hg (size33.trans (congrArg some HNT.out.symm)) (zsize.trans HNT.out.symm) HA.out ?_
            have HT_ := Aside0.mk (heap_setRow_same (cs := T) HN.out.hg)
            replace HS := Aside0.mk (HS.out.put HN.out T)
            refine hK_.out _ _ HS.out (fun _ => ?_)
            clear hK_ K_
            try simp only [Act.put, List.setIfInBounds_toArray, List.set_cons_zero, List.set_cons_succ]
            refine wpAnyH_takeD (i := 10) (v := .int .i64 q) (some 6) rfl rfl (by kernel_rfl) (by kernel_rfl) (by kernel_rfl) (fun _ _ _ h => h) (.inl ⟨rfl, fun _ _ => by go_simp⟩) HS.out ?_
            simp only [Act.put, List.setIfInBounds_toArray, List.set_cons_zero, List.set_cons_succ]
            exact wpAnyH_done (by kernel_rfl) (HK.out _ _ ⟨HS.out, HT_.out⟩) _
      · go_simp
        have HN := Aside0.mk (NB.start HS.out (.cells (mat 0 0 z36) 33))
        replace HS := Aside0.mk (HS.out.alloc (.cells (mat 0 0 z36) 33))
        refine hK_.out _ _ HS.out (fun _ => ?_)
        clear hK_ K_
        try simp only [Act.put, List.setIfInBounds_toArray, List.set_cons_zero, List.set_cons_succ]
        refine wpAnyH_ready (rs := [3]) (by kernel_rfl) (by simp) (AllReadyH.cons rfl (fun K_ hK_ => ?_) AllReadyH.nil)
        · go_simp
          go_at_call 12
          refine (toM r' c' b HL'.out _).mono ?_
          rintro e_ w1_ ⟨rfl, hb_⟩
          replace HS := Aside0.mk (HS.out.step hb_)
          replace HN := Aside0.mk (HN.out.step hb_)
          clear hb_
          refine hK_.out _ _ HS.out (fun _ => ?_)
          clear hK_ K_
          try simp only [Act.put, List.setIfInBounds_toArray, List.set_cons_zero, List.set_cons_succ]
          refine wpAnyH_ready (rs := [4]) (by kernel_rfl) (by simp) (AllReadyH.cons rfl (fun K_ hK_ => ?_) AllReadyH.nil)
          · go_simp
            go_at_call 21
            refine (H1.out _).mono ?_
            rintro e_ w2_ ⟨rfl, hb_⟩
            replace HS := Aside0.mk (HS.out.step hb_)
            replace HN := Aside0.mk (HN.out.step hb_)
            clear hb_
            refine hK_.out _ _ HS.out (fun _ => ?_)
            clear hK_ K_
            try simp only [Act.put, List.setIfInBounds_toArray, List.set_cons_zero, List.set_cons_succ]
            refine wpAnyH_takeD (i := 5) (v := .tuple #[.agg T, .int .i64 q]) (some 9) rfl rfl (by kernel_rfl) (by kernel_rfl) (by kernel_rfl) (fun _ _ _ h => h) (.inl ⟨rfl, fun _ _ => by go_simp⟩) HS.out ?_
            simp only [Act.put, List.setIfInBounds_toArray, List.set_cons_zero, List.set_cons_succ]
            refine wpAnyH_takeD (i := 6) (v := .agg T) (some 15) rfl rfl (by kernel_rfl) (by kernel_rfl) (by kernel_rfl) (fun _ _ _ h => h) (.inl ⟨rfl, fun _ _ => by go_simp⟩) HS.out ?_
            simp only [Act.put, List.setIfInBounds_toArray, List.set_cons_zero, List.set_cons_succ]
            refine wpAnyH_takeD (i := 7) (v := .int .i64 q) (some 16) rfl rfl (by kernel_rfl) (by kernel_rfl) (by kernel_rfl) (fun _ _ _ h => h) (.inl ⟨rfl, fun _ _ => by go_simp⟩) HS.out ?_
            simp only [Act.put, List.setIfInBounds_toArray, List.set_cons_zero, List.set_cons_succ]
            refine wpAnyH_ready (rs := [9]) (by kernel_rfl) (by simp) (AllReadyH.cons rfl (fun K_ hK_ => ?_) AllReadyH.nil)
            rw [if_pos (by rfl)]
            refine wp_store_row 33 (.tmp 5) (.tmp 15) rfl _ T rfl rfl 33 _ HN.out.hg (size33.trans (congrArg some HNT.out.symm)) (zsize.trans HNT.out.symm) HA.out ?_
            have HT_ := Aside0.mk (heap_setRow_same (cs := T) HN.out.hg)
            replace HS := Aside0.mk (HS.out.put HN.out T)
            refine hK_.out _ _ HS.out (fun _ => ?_)
            clear hK_ K_
            try simp only [Act.put, List.setIfInBounds_toArray, List.set_cons_zero, List.set_cons_succ]
            refine wpAnyH_takeD (i := 10) (v := .int .i64 q) (some 6) rfl rfl (by kernel_rfl) (by kernel_rfl) (by kernel_rfl) (fun _ _ _ h => h) (.inl ⟨rfl, fun _ _ => by go_simp⟩) HS.out ?_
            simp only [Act.put, List.setIfInBounds_toArray, List.set_cons_zero, List.set_cons_succ]
            exact wpAnyH_done (by kernel_rfl) (HK.out _ _ ⟨HS.out, HT_.out⟩) _
    · go_simp
      have HN := Aside0.mk (NB.start HS.out (.cells (mat 0 0 z36) 33))
      replace HS := Aside0.mk (HS.out.alloc (.cells (mat 0 0 z36) 33))
      refine hK_.out _ _ HS.out (fun _ => ?_)
      clear hK_ K_
      try simp only [Act.put, List.setIfInBounds_toArray, List.set_cons_zero, List.set_cons_succ]
      refine wpAnyH_ready (rs := [1]) (by kernel_rfl) (by simp) (AllReadyH.cons rfl (fun K_ hK_ => ?_) AllReadyH.nil)
      · go_simp
        go_at_call 12
        refine (toM r c a HL.out _).mono ?_
        rintro e_ w0_ ⟨rfl, hb_⟩
        replace HS := Aside0.mk (HS.out.step hb_)
        replace HN := Aside0.mk (HN.out.step hb_)
        clear hb_
        refine hK_.out _ _ HS.out (fun _ => ?_)
        clear hK_ K_
        try simp only [Act.put, List.setIfInBounds_toArray, List.set_cons_zero, List.set_cons_succ]
        refine wpAnyH_ready (rs := [3]) (by kernel_rfl) (by simp) (AllReadyH.cons rfl (fun K_ hK_ => ?_) AllReadyH.nil)
        · go_simp
          go_at_call 12
          refine (toM r' c' b HL'.out _).mono ?_
          rintro e_ w1_ ⟨rfl, hb_⟩
          replace HS := Aside0.mk (HS.out.step hb_)
          replace HN := Aside0.mk (HN.out.step hb_)
          clear hb_
          refine hK_.out _ _ HS.out (fun _ => ?_)
          clear hK_ K_
          try simp only [Act.put, List.setIfInBounds_toArray, List.set_cons_zero, List.set_cons_succ]
          refine wpAnyH_ready (rs := [4]) (by kernel_rfl) (by simp) (AllReadyH.cons rfl (fun K_ hK_ => ?_) AllReadyH.nil)
          · go_simp
            go_at_call 21
            refine (H1.out _).mono ?_
            rintro e_ w2_ ⟨rfl, hb_⟩
            replace HS := Aside0.mk (HS.out.step hb_)
            replace HN := Aside0.mk (HN.out.step hb_)
            clear hb_
            refine hK_.out _ _ HS.out (fun _ => ?_)
            clear hK_ K_
            try simp only [Act.put, List.setIfInBounds_toArray, List.set_cons_zero, List.set_cons_succ]
            refine wpAnyH_takeD (i := 5) (v := .tuple #[.agg T, .int .i64 q]) (some 9) rfl rfl (by kernel_rfl) (by kernel_rfl) (by kernel_rfl) (fun _ _ _ h => h) (.inl ⟨rfl, fun _ _ => by go_simp⟩) HS.out ?_
            simp only [Act.put, List.setIfInBounds_toArray, List.set_cons_zero, List.set_cons_succ]
            refine wpAnyH_takeD (i := 6) (v := .agg T) (some 15) rfl rfl (by kernel_rfl) (by kernel_rfl) (by kernel_rfl) (fun _ _ _ h => h) (.inl ⟨rfl, fun _ _ => by go_simp⟩) HS.out ?_
            simp only [Act.put, List.setIfInBounds_toArray, List.set_cons_zero, List.set_cons_succ]
            refine wpAnyH_takeD (i := 7) (v := .int .i64 q) (some 16) rfl rfl (by kernel_rfl) (by kernel_rfl) (by kernel_rfl) (fun _ _ _ h => h) (.inl ⟨rfl, fun _ _ => by go_simp⟩) HS.out ?_
            simp only [Act.put, List.setIfInBounds_toArray, List.set_cons_zero, List.set_cons_succ]
            refine wpAnyH_ready (rs := [9]) (by kernel_rfl) (by simp) (AllReadyH.cons rfl (fun K_ hK_ => ?_) AllReadyH.nil)
            rw [if_pos (by rfl)]
            refine wp_store_row 33 (.tmp 5) (.tmp 15) rfl _ T rfl rfl 33 _ HN.out.hg (size33.trans (congrArg some HNT.out.symm)) (zsize.trans HNT.out.symm) HA.out ?_
            have HT_ := Aside0.mk (heap_setRow_same (cs := T) HN.out.hg)
            replace HS := Aside0.mk (HS.out.put HN.out T)
            refine hK_.out _ _ HS.out (fun _ => ?_)
            clear hK_ K_
            try simp only [Act.put, List.setIfInBounds_toArray, List.set_cons_zero, List.set_cons_succ]
            refine wpAnyH_takeD (i := 10) (v := .int .i64 q) (some 6) rfl rfl (by kernel_rfl) (by kernel_rfl) (by kernel_rfl) (fun _ _ _ h => h) (.inl ⟨rfl, fun _ _ => by go_simp⟩) HS.out ?_
            simp only [Act.put, List.setIfInBounds_toArray, List.set_cons_zero, List.set_cons_succ]
            exact wpAnyH_done (by kernel_rfl) (HK.out _ _ ⟨HS.out, HT_.out⟩) _
  clear HX
  intro nS wS hG_
  have HX := Aside0.mk hG_.1.hx
  have HW := Aside0.mk hG_.2
  clear hG_
  go_wp2_with fail
  refine region_law (SL w (.cells (mat r c a) 27) (.cells (mat r' c' b) 27) (some nS) (.cells T 33)) (fun n_ => { tmps := #[.agg (mat r c a), .agg (mat r' c' b), .pointer (some ⟨w.heap.size, 0, none⟩), .pointer (some ⟨w.heap.size + 1, 0, none⟩), .bool false, .pointer (some ⟨nS, 0, none⟩), .int .i64 q, .pointer (some ⟨n_, 0, none⟩), .int .i64 q, .tuple #[.agg T, .int .i64 q], .agg (mat r c a), .agg (mat r c a), .agg (mat r' c' b), .agg (mat r' c' b), .tuple #[.agg T, .int .i64 q], .agg T, .int .i64 q, .tuple #[.agg T, .int .i64 q], .agg (mat r c a), .agg (mat r c a), .agg (mat r' c' b), .agg (mat r' c' b), .tuple #[.agg T, .int .i64 q], .agg T, .int .i64 q, undef, undef, undef, undef, undef, undef, undef, undef, undef], defers := [] }) (fun n_ w_ => (SL w (.cells (mat r c a) 27) (.cells (mat r' c' b) 27) (some nS) (.cells T 33)) w_ ∧ w_.heap[n_]? = some (.cells T 33)) (by kernel_rfl) ⟨HX.out.drewN 1, fun _ e_ => by cases e_; exact HW.out⟩ ?key2 ?reg2
  case reg2 =>
    intro W hS0 HK0
    have HS := Aside0.mk hS0
    have HK := Aside0.mk HK0
    clear hS0 HK0
    refine wpAnyH_takeD (i := 0) (v := .agg (mat r c a)) (some 18) rfl rfl (by kernel_rfl) (by kernel_rfl) (by kernel_rfl) (fun _ _ _ h => h) (.inl ⟨rfl, fun w1_ h1_ => exec_load_row 27 (.tmp 2) rfl w.heap.size rfl 27 _ (0, 0) _ h1_.hx.h1 Try.underlying27 rfl (size27.trans (congrArg some HS1.out.symm))⟩) HS.out ?_
    simp only [Act.put, List.setIfInBounds_toArray, List.set_cons_zero, List.set_cons_succ]
    refine wpAnyH_takeD (i := 2) (v := .agg (mat r' c' b)) (some 20) rfl rfl (by kernel_rfl) (by kernel_rfl) (by kernel_rfl) (fun _ _ _ h => h) (.inl ⟨rfl, fun w1_ h1_ => exec_load_row 27 (.tmp 3) rfl (w.heap.size + 1) rfl 27 _ (0, 0) _ h1_.hx.h2 Try.underlying27 rfl (size27.trans (congrArg some HS2.out.symm))⟩) HS.out ?_
    simp only [Act.put, List.setIfInBounds_toArray, List.set_cons_zero, List.set_cons_succ]
    refine wpAnyH_ready (rs := [1, 8]) (by kernel_rfl) (by simp) (AllReadyH.cons rfl (fun K_ hK_ => ?_) (AllReadyH.cons rfl (fun K_ hK_ => ?_) AllReadyH.nil))
    · go_simp
      go_at_call 12
      refine (toM r c a HL.out _).mono ?_
      rintro e_ w0_ ⟨rfl, hb_⟩
      replace HS := Aside0.mk (HS.out.step hb_)
      clear hb_
      refine hK_.out _ _ HS.out (fun _ => ?_)
      clear hK_ K_
      try simp only [Act.put, List.setIfInBounds_toArray, List.set_cons_zero, List.set_cons_succ]
      refine wpAnyH_ready (rs := [3, 8]) (by kernel_rfl) (by simp) (AllReadyH.cons rfl (fun K_ hK_ => ?_) (AllReadyH.cons rfl (fun K_ hK_ => ?_) AllReadyH.nil))
      · go_simp
        go_at_call 12
        refine (toM r' c' b HL'.out _).mono ?_
        rintro e_ w1_ ⟨rfl, hb_⟩
        replace HS := Aside0.mk (HS.out.step hb_)
        clear hb_
        refine hK_.out _ _ HS.out (fun _ => ?_)
        clear hK_ K_
        try simp only [Act.put, List.setIfInBounds_toArray, List.set_cons_zero, List.set_cons_succ]
        refine wpAnyH_ready (rs := [4, 8]) (by kernel_rfl) (by simp) (AllReadyH.cons rfl (fun K_ hK_ => ?_) (AllReadyH.cons rfl (fun K_ hK_ => ?_) AllReadyH.nil))
        · go_simp
          go_at_call 22
          refine (H2.out _).mono ?_
          rintro e_ w2_ ⟨rfl, hb_⟩
          replace HS := Aside0.mk (HS.out.step hb_)
          clear hb_
          refine hK_.out _ _ HS.out (fun _ => ?_)
          clear hK_ K_
          try simp only [Act.put, List.setIfInBounds_toArray, List.set_cons_zero, List.set_cons_succ]
          refine wpAnyH_takeD (i := 5) (v := .tuple #[.agg T, .int .i64 q]) (some 17) rfl rfl (by kernel_rfl) (by kernel_rfl) (by kernel_rfl) (fun _ _ _ h => h) (.inl ⟨rfl, fun _ _ => by go_simp⟩) HS.out ?_
          simp only [Act.put, List.setIfInBounds_toArray, List.set_cons_zero, List.set_cons_succ]
          refine wpAnyH_takeD (i := 6) (v := .agg T) (some 23) rfl rfl (by kernel_rfl) (by kernel_rfl) (by kernel_rfl) (fun _ _ _ h => h) (.inl ⟨rfl, fun _ _ => by go_simp⟩) HS.out ?_
          simp only [Act.put, List.setIfInBounds_toArray, List.set_cons_zero, List.set_cons_succ]
          refine wpAnyH_takeD (i := 7) (v := .int .i64 q) (some 24) rfl rfl (by kernel_rfl) (by kernel_rfl) (by kernel_rfl) (fun _ _ _ h => h) (.inl ⟨rfl, fun _ _ => by go_simp⟩) HS.out ?_
          simp only [Act.put, List.setIfInBounds_toArray, List.set_cons_zero, List.set_cons_succ]
          refine wpAnyH_ready (rs := [8]) (by kernel_rfl) (by simp) (AllReadyH.cons rfl (fun K_ hK_ => ?_) AllReadyH.nil)
          · go_simp
            have HN := Aside0.mk (NB.start HS.out (.cells (mat 0 0 z36) 33))
            replace HS := Aside0.mk (HS.out.alloc (.cells (mat 0 0 z36) 33))
            refine hK_.out _ _ HS.out (fun _ => ?_)
            clear hK_ K_
            try simp only [Act.put, List.setIfInBounds_toArray, List.set_cons_zero, List.set_cons_succ]
            refine wpAnyH_ready (rs := [9]) (by kernel_rfl) (by simp) (AllReadyH.cons rfl (fun K_ hK_ => ?_) AllReadyH.nil)
            rw [if_pos (by rfl)]
            refine wp_store_row 33 (.tmp 7) (.tmp 23) rfl _ T rfl rfl 33 _ HN.out.hg (size33.trans (congrArg some HNT.out.symm)) (zsize.trans HNT.out.symm) HA.out ?_
            have HT_ := Aside0.mk (heap_setRow_same (cs := T) HN.out.hg)
            replace HS := Aside0.mk (HS.out.put HN.out T)
            refine hK_.out _ _ HS.out (fun _ => ?_)
            clear hK_ K_
            try simp only [Act.put, List.setIfInBounds_toArray, List.set_cons_zero, List.set_cons_succ]
            refine wpAnyH_takeD (i := 10) (v := .int .i64 q) (some 8) rfl rfl (by kernel_rfl) (by kernel_rfl) (by kernel_rfl) (fun _ _ _ h => h) (.inl ⟨rfl, fun _ _ => by go_simp⟩) HS.out ?_
            simp only [Act.put, List.setIfInBounds_toArray, List.set_cons_zero, List.set_cons_succ]
            exact wpAnyH_done (by kernel_rfl) (HK.out _ _ ⟨HS.out, HT_.out⟩) _
        · go_simp
          have HN := Aside0.mk (NB.start HS.out (.cells (mat 0 0 z36) 33))
          replace HS := Aside0.mk (HS.out.alloc (.cells (mat 0 0 z36) 33))
          refine hK_.out _ _ HS.out (fun _ => ?_)
          clear hK_ K_
          try simp only [Act.put, List.setIfInBounds_toArray, List.set_cons_zero, List.set_cons_succ]
          refine wpAnyH_ready (rs := [4]) (by kernel_rfl) (by simp) (AllReadyH.cons rfl (fun K_ hK_ => ?_) AllReadyH.nil)
          · go_simp
            go_at_call 22
            refine (H2.out _).mono ?_
            rintro e_ w2_ ⟨rfl, hb_⟩
            replace HS := Aside0.mk (HS.out.step hb_)
            replace HN := Aside0.mk (HN.out.step hb_)
            clear hb_
            refine hK_.out _ _ HS.out (fun _ => ?_)
            clear hK_ K_
            try simp only [Act.put, List.setIfInBounds_toArray, List.set_cons_zero, List.set_cons_succ]
            refine wpAnyH_takeD (i := 5) (v := .tuple #[.agg T, .int .i64 q]) (some 17) rfl rfl (by kernel_rfl) (by kernel_rfl) (by kernel_rfl) (fun _ _ _ h => h) (.inl ⟨rfl, fun _ _ => by go_simp⟩) HS.out ?_
            simp only [Act.put, List.setIfInBounds_toArray, List.set_cons_zero, List.set_cons_succ]
            refine wpAnyH_takeD (i := 6) (v := .agg T) (some 23) rfl rfl (by kernel_rfl) (by kernel_rfl) (by kernel_rfl) (fun _ _ _ h => h) (.inl ⟨rfl, fun _ _ => by go_simp⟩) HS.out ?_
            simp only [Act.put, List.setIfInBounds_toArray, List.set_cons_zero, List.set_cons_succ]
            refine wpAnyH_takeD (i := 7) (v := .int .i64 q) (some 24) rfl rfl (by kernel_rfl) (by kernel_rfl) (by kernel_rfl) (fun _ _ _ h => h) (.inl ⟨rfl, fun _ _ => by go_simp⟩) HS.out ?_
            simp only [Act.put, List.setIfInBounds_toArray, List.set_cons_zero, List.set_cons_succ]
            refine wpAnyH_ready (rs := [9]) (by kernel_rfl) (by simp) (AllReadyH.cons rfl (fun K_ hK_ => ?_) AllReadyH.nil)
            rw [if_pos (by rfl)]
            refine wp_store_row 33 (.tmp 7) (.tmp 23) rfl _ T rfl rfl 33 _ HN.out.hg (size33.trans (congrArg some HNT.out.symm)) (zsize.trans HNT.out.symm) HA.out ?_
            have HT_ := Aside0.mk (heap_setRow_same (cs := T) HN.out.hg)
            replace HS := Aside0.mk (HS.out.put HN.out T)
            refine hK_.out _ _ HS.out (fun _ => ?_)
            clear hK_ K_
            try simp only [Act.put, List.setIfInBounds_toArray, List.set_cons_zero, List.set_cons_succ]
            refine wpAnyH_takeD (i := 10) (v := .int .i64 q) (some 8) rfl rfl (by kernel_rfl) (by kernel_rfl) (by kernel_rfl) (fun _ _ _ h => h) (.inl ⟨rfl, fun _ _ => by go_simp⟩) HS.out ?_
            simp only [Act.put, List.setIfInBounds_toArray, List.set_cons_zero, List.set_cons_succ]
            exact wpAnyH_done (by kernel_rfl) (HK.out _ _ ⟨HS.out, HT_.out⟩) _
      · go_simp
        have HN := Aside0.mk (NB.start HS.out (.cells (mat 0 0 z36) 33))
        replace HS := Aside0.mk (HS.out.alloc (.cells (mat 0 0 z36) 33))
        refine hK_.out _ _ HS.out (fun _ => ?_)
        clear hK_ K_
        try simp only [Act.put, List.setIfInBounds_toArray, List.set_cons_zero, List.set_cons_succ]
        refine wpAnyH_ready (rs := [3]) (by kernel_rfl) (by simp) (AllReadyH.cons rfl (fun K_ hK_ => ?_) AllReadyH.nil)
        · go_simp
          go_at_call 12
          refine (toM r' c' b HL'.out _).mono ?_
          rintro e_ w1_ ⟨rfl, hb_⟩
          replace HS := Aside0.mk (HS.out.step hb_)
          replace HN := Aside0.mk (HN.out.step hb_)
          clear hb_
          refine hK_.out _ _ HS.out (fun _ => ?_)
          clear hK_ K_
          try simp only [Act.put, List.setIfInBounds_toArray, List.set_cons_zero, List.set_cons_succ]
          refine wpAnyH_ready (rs := [4]) (by kernel_rfl) (by simp) (AllReadyH.cons rfl (fun K_ hK_ => ?_) AllReadyH.nil)
          · go_simp
            go_at_call 22
            refine (H2.out _).mono ?_
            rintro e_ w2_ ⟨rfl, hb_⟩
            replace HS := Aside0.mk (HS.out.step hb_)
            replace HN := Aside0.mk (HN.out.step hb_)
            clear hb_
            refine hK_.out _ _ HS.out (fun _ => ?_)
            clear hK_ K_
            try simp only [Act.put, List.setIfInBounds_toArray, List.set_cons_zero, List.set_cons_succ]
            refine wpAnyH_takeD (i := 5) (v := .tuple #[.agg T, .int .i64 q]) (some 17) rfl rfl (by kernel_rfl) (by kernel_rfl) (by kernel_rfl) (fun _ _ _ h => h) (.inl ⟨rfl, fun _ _ => by go_simp⟩) HS.out ?_
            simp only [Act.put, List.setIfInBounds_toArray, List.set_cons_zero, List.set_cons_succ]
            refine wpAnyH_takeD (i := 6) (v := .agg T) (some 23) rfl rfl (by kernel_rfl) (by kernel_rfl) (by kernel_rfl) (fun _ _ _ h => h) (.inl ⟨rfl, fun _ _ => by go_simp⟩) HS.out ?_
            simp only [Act.put, List.setIfInBounds_toArray, List.set_cons_zero, List.set_cons_succ]
            refine wpAnyH_takeD (i := 7) (v := .int .i64 q) (some 24) rfl rfl (by kernel_rfl) (by kernel_rfl) (by kernel_rfl) (fun _ _ _ h => h) (.inl ⟨rfl, fun _ _ => by go_simp⟩) HS.out ?_
            simp only [Act.put, List.setIfInBounds_toArray, List.set_cons_zero, List.set_cons_succ]
            refine wpAnyH_ready (rs := [9]) (by kernel_rfl) (by simp) (AllReadyH.cons rfl (fun K_ hK_ => ?_) AllReadyH.nil)
            rw [if_pos (by rfl)]
            refine wp_store_row 33 (.tmp 7) (.tmp 23) rfl _ T rfl rfl 33 _ HN.out.hg (size33.trans (congrArg some HNT.out.symm)) (zsize.trans HNT.out.symm) HA.out ?_
            have HT_ := Aside0.mk (heap_setRow_same (cs := T) HN.out.hg)
            replace HS := Aside0.mk (HS.out.put HN.out T)
            refine hK_.out _ _ HS.out (fun _ => ?_)
            clear hK_ K_
            try simp only [Act.put, List.setIfInBounds_toArray, List.set_cons_zero, List.set_cons_succ]
            refine wpAnyH_takeD (i := 10) (v := .int .i64 q) (some 8) rfl rfl (by kernel_rfl) (by kernel_rfl) (by kernel_rfl) (fun _ _ _ h => h) (.inl ⟨rfl, fun _ _ => by go_simp⟩) HS.out ?_
            simp only [Act.put, List.setIfInBounds_toArray, List.set_cons_zero, List.set_cons_succ]
            exact wpAnyH_done (by kernel_rfl) (HK.out _ _ ⟨HS.out, HT_.out⟩) _
    · go_simp
      have HN := Aside0.mk (NB.start HS.out (.cells (mat 0 0 z36) 33))
      replace HS := Aside0.mk (HS.out.alloc (.cells (mat 0 0 z36) 33))
      refine hK_.out _ _ HS.out (fun _ => ?_)
      clear hK_ K_
      try simp only [Act.put, List.setIfInBounds_toArray, List.set_cons_zero, List.set_cons_succ]
      refine wpAnyH_ready (rs := [1]) (by kernel_rfl) (by simp) (AllReadyH.cons rfl (fun K_ hK_ => ?_) AllReadyH.nil)
      · go_simp
        go_at_call 12
        refine (toM r c a HL.out _).mono ?_
        rintro e_ w0_ ⟨rfl, hb_⟩
        replace HS := Aside0.mk (HS.out.step hb_)
        replace HN := Aside0.mk (HN.out.step hb_)
        clear hb_
        refine hK_.out _ _ HS.out (fun _ => ?_)
        clear hK_ K_
        try simp only [Act.put, List.setIfInBounds_toArray, List.set_cons_zero, List.set_cons_succ]
        refine wpAnyH_ready (rs := [3]) (by kernel_rfl) (by simp) (AllReadyH.cons rfl (fun K_ hK_ => ?_) AllReadyH.nil)
        · go_simp
          go_at_call 12
          refine (toM r' c' b HL'.out _).mono ?_
          rintro e_ w1_ ⟨rfl, hb_⟩
          replace HS := Aside0.mk (HS.out.step hb_)
          replace HN := Aside0.mk (HN.out.step hb_)
          clear hb_
          refine hK_.out _ _ HS.out (fun _ => ?_)
          clear hK_ K_
          try simp only [Act.put, List.setIfInBounds_toArray, List.set_cons_zero, List.set_cons_succ]
          refine wpAnyH_ready (rs := [4]) (by kernel_rfl) (by simp) (AllReadyH.cons rfl (fun K_ hK_ => ?_) AllReadyH.nil)
          · go_simp
            go_at_call 22
            refine (H2.out _).mono ?_
            rintro e_ w2_ ⟨rfl, hb_⟩
            replace HS := Aside0.mk (HS.out.step hb_)
            replace HN := Aside0.mk (HN.out.step hb_)
            clear hb_
            refine hK_.out _ _ HS.out (fun _ => ?_)
            clear hK_ K_
            try simp only [Act.put, List.setIfInBounds_toArray, List.set_cons_zero, List.set_cons_succ]
            refine wpAnyH_takeD (i := 5) (v := .tuple #[.agg T, .int .i64 q]) (some 17) rfl rfl (by kernel_rfl) (by kernel_rfl) (by kernel_rfl) (fun _ _ _ h => h) (.inl ⟨rfl, fun _ _ => by go_simp⟩) HS.out ?_
            simp only [Act.put, List.setIfInBounds_toArray, List.set_cons_zero, List.set_cons_succ]
            refine wpAnyH_takeD (i := 6) (v := .agg T) (some 23) rfl rfl (by kernel_rfl) (by kernel_rfl) (by kernel_rfl) (fun _ _ _ h => h) (.inl ⟨rfl, fun _ _ => by go_simp⟩) HS.out ?_
            simp only [Act.put, List.setIfInBounds_toArray, List.set_cons_zero, List.set_cons_succ]
            refine wpAnyH_takeD (i := 7) (v := .int .i64 q) (some 24) rfl rfl (by kernel_rfl) (by kernel_rfl) (by kernel_rfl) (fun _ _ _ h => h) (.inl ⟨rfl, fun _ _ => by go_simp⟩) HS.out ?_
            simp only [Act.put, List.setIfInBounds_toArray, List.set_cons_zero, List.set_cons_succ]
            refine wpAnyH_ready (rs := [9]) (by kernel_rfl) (by simp) (AllReadyH.cons rfl (fun K_ hK_ => ?_) AllReadyH.nil)
            rw [if_pos (by rfl)]
            refine wp_store_row 33 (.tmp 7) (.tmp 23) rfl _ T rfl rfl 33 _ HN.out.hg (size33.trans (congrArg some HNT.out.symm)) (zsize.trans HNT.out.symm) HA.out ?_
            have HT_ := Aside0.mk (heap_setRow_same (cs := T) HN.out.hg)
            replace HS := Aside0.mk (HS.out.put HN.out T)
            refine hK_.out _ _ HS.out (fun _ => ?_)
            clear hK_ K_
            try simp only [Act.put, List.setIfInBounds_toArray, List.set_cons_zero, List.set_cons_succ]
            refine wpAnyH_takeD (i := 10) (v := .int .i64 q) (some 8) rfl rfl (by kernel_rfl) (by kernel_rfl) (by kernel_rfl) (fun _ _ _ h => h) (.inl ⟨rfl, fun _ _ => by go_simp⟩) HS.out ?_
            simp only [Act.put, List.setIfInBounds_toArray, List.set_cons_zero, List.set_cons_succ]
            exact wpAnyH_done (by kernel_rfl) (HK.out _ _ ⟨HS.out, HT_.out⟩) _
  clear HX HW
  intro nG wG hG_
  have HX := Aside0.mk hG_.1.hx
  have HW := Aside0.mk (hG_.1.hk nS rfl)
  have HG := Aside0.mk hG_.2
  clear hG_
  go_wp2_with (first
    | (refine wpList_load_row rfl 33 _ rfl nG rfl 33 _ (0, 0) _ HG.out Try.underlying33 rfl (size33.trans (congrArg some HNT.out.symm)) ?_)
    | (refine wpList_load_row rfl 33 _ rfl nS rfl 33 _ (0, 0) _ HW.out Try.underlying33 rfl (size33.trans (congrArg some HNT.out.symm)) ?_)
    | (go_at_call 16; refine (HE.out _).mono ?_; rintro e w2 ⟨rfl, hb2⟩; replace HX := Aside0.mk (HX.out.step hb2); clear hb2))
  go_ret
  exact ⟨rfl, HX.out.hb⟩
end Go.Proofs.Ytjffoemohcebjaa.Mx
