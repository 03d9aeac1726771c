/- The walk of the law FnExactReadGame over the contracts of what it calls. No condition. -/
import Derived.Test.YtojjakjpdkpmiaaDoorQFnExactReadGamex
import Derived.Test.YtojjakjpdkpmiaaDoorWKept
import Derived.Test.YtojjakjpdkpmiaaDoorWApart
set_option linter.unusedVariables false
set_option linter.unusedSimpArgs false
namespace Go.Proofs.YtojjakjpdkpmiaaDoor.WalkFnExactReadGame
open Go.RowKit Go.Proofs.YtojjakjpdkpmiaaDoor.QFnExactReadGame Go.Proofs.YtojjakjpdkpmiaaDoorW.PrintWords Go.Proofs.YtojjakjpdkpmiaaDoorW.PrintLast

/-- At most so many blocks there are. -/
def Sz (p : Nat) (w : World) : Prop := p ≤ w.heap.size
theorem Sz.alloc {p : Nat} {w : World} (h : Sz p w) (o : Obj) : Sz p (w.alloc o) := Nat.le_trans h (by simp)
theorem Sz.drewN {p : Nat} {w : World} (h : Sz p w) (n : Nat) : Sz p (w.drewN n) := h
theorem Sz.drew {p : Nat} {w : World} (h : Sz p w) : Sz p w.drew := h
theorem Sz.below {p : Nat} {w w' : World} (h : Sz p w) (hb : Below w.heap.size w w') : Sz p w' := Nat.le_trans h hb.size
section
variable {α : Type} {d : Kd α} {e : Nat}
theorem new_R {w W w' : World} {ok : Nat → Prop} {v : Value} {xs : List α} {p : Nat} (h : d.R e w' W.heap.size ok v xs) (hb : Below W.heap.size W w') (h0 : Below w.heap.size w W) (hp : Sz p W) :
    ∃ a b, d.R e w' w.heap.size (fun k => a ≤ k ∧ k < b) v xs ∧ (p ≤ a ∧ a ≤ b) ∧ Sz b w' :=
  ⟨W.heap.size, w'.heap.size, Kd.R_lower (Kd.R_mono (Kd.R_bound h) (fun _ hk => ⟨hk.2.1, hk.2.2.1⟩)) h0.size, ⟨hp, hb.size⟩, Nat.le_refl _⟩
theorem new_S {w W w' : World} {ok : Nat → Prop} {v : Value} {xs : List α} {p : Nat} (h : d.S e w' W.heap.size ok v xs) (hb : Below W.heap.size W w') (h0 : Below w.heap.size w W) (hp : Sz p W) :
    ∃ a b, d.S e w' w.heap.size (fun k => a ≤ k ∧ k < b) v xs ∧ (p ≤ a ∧ a ≤ b) ∧ Sz b w' :=
  ⟨W.heap.size, w'.heap.size, Kd.S_lower (Kd.S_mono (Kd.S_bound h) (fun _ hk => ⟨hk.2.1, hk.2.2.1⟩)) h0.size, ⟨hp, hb.size⟩, Nat.le_refl _⟩
theorem mark_R {W w' : World} {base a b p : Nat} {v : Value} {xs : List α} (h : d.R e w' base (fun k => (a ≤ k ∧ k < b) ∨ W.heap.size ≤ k) v xs) (ha : p ≤ a ∧ a ≤ W.heap.size) (hs : W.heap.size ≤ w'.heap.size) :
    ∃ b2, d.R e w' base (fun k => a ≤ k ∧ k < b2) v xs ∧ (p ≤ a ∧ a ≤ b2) ∧ Sz b2 w' :=
  ⟨w'.heap.size, Kd.R_mono (Kd.R_bound h) (fun k hk => ⟨hk.1.elim (fun q => q.1) (fun q => Nat.le_trans ha.2 q), hk.2.2.1⟩), ⟨ha.1, Nat.le_trans ha.2 hs⟩, Nat.le_refl _⟩
theorem mark_S {W w' : World} {base a b p : Nat} {v : Value} {xs : List α} (h : d.S e w' base (fun k => (a ≤ k ∧ k < b) ∨ W.heap.size ≤ k) v xs) (ha : p ≤ a ∧ a ≤ W.heap.size) (hs : W.heap.size ≤ w'.heap.size) :
    ∃ b2, d.S e w' base (fun k => a ≤ k ∧ k < b2) v xs ∧ (p ≤ a ∧ a ≤ b2) ∧ Sz b2 w' :=
  ⟨w'.heap.size, Kd.S_mono (Kd.S_bound h) (fun k hk => ⟨hk.1.elim (fun q => q.1) (fun q => Nat.le_trans ha.2 q), hk.2.2.1⟩), ⟨ha.1, Nat.le_trans ha.2 hs⟩, Nat.le_refl _⟩
end
theorem hg_held (k : Nat) (A0 : Option Addr) (c0 n : Nat) (l0 : List (List Int)) (a1 : Int) (r : Int) (w : World) (hr0 : Kd.C (Kd.slice 76 (Kd.int .i8)) w A0 l0.length l0) (hc0 : n ≤ c0) (hn : n = l0.length) (h : laws_heldGame.f k l0 a1 = some r) :
    Calls Tryd.prog 45 #[.slice A0 n c0, .int .i64 a1] w fun e w' => e = .returned (.int .i64 r) ∧ Drawn0 w w' := by
  subst hn
  exact laws_heldGame.calls k A0 c0 l0 a1 r w hr0 hc0 h
set_option maxHeartbeats 3200000 in
set_option maxRecDepth 100000 in
theorem gl_law (k : Nat) (a0 : ByteArray) (V V' : List (List Int)) (er m   : Int)  (w : World) (hLaidErr_ : LaidErr w) (hLaidMax_ : LaidMax w) (hLaidPow_ : LaidPow w)
    (hlen0 : (a0.size : Int) ≤ 1048576) (hs : spec_ReadGame.f k a0 = some (V, er)) (hi : impl_ReadGame.f k a0 = some (V, er)) (he : laws_eqGame.f k V V = some true) (hn : laws_markGame.f k V 1 = some (m, V')) (hh : laws_heldGame.f k V' 1 = some m) (hm_ : 0 ≤ m) :
    Calls Tryd.prog 12 #[.string a0] w fun e w' => e = .returned (.bool true) ∧ Below w.heap.size w w' := by
  have hlb0 : decide ((a0.size : Int) > 1048576) = false := decide_eq_false (by omega)
  have hlc0 : decide (1048576 < (a0.size : Int)) = false := decide_eq_false (by omega)
  have hld0 : decide (1048576 < a0.size) = false := decide_eq_false (by omega)
  have HS := Aside0.mk hs
  have HI := Aside0.mk hi
  have HE := Aside0.mk he
  have HN := Aside0.mk hn
  have HH := Aside0.mk hh
  have bm : decide (m < 0) = false := decide_eq_false (by omega)
  have HLaidErr_ := Aside0.mk hLaidErr_
  have HLaidMax_ := Aside0.mk hLaidMax_
  have HLaidPow_ := Aside0.mk hLaidPow_
  have HB0 := Aside0.mk (Below.refl w.heap.size w)
  have HP0 := Aside0.mk (show Sz w.heap.size w from Nat.le_refl _)
  clear hlen0 hs hi he hn hh hm_ hLaidErr_ hLaidMax_ hLaidPow_
  go_enter Tryd.func12, Tryd.ntmps12
  go_wp2_with (first
    | (go_at_call 42; (with_reducible refine (spec_ReadGame.calls k a0 V er _ ?s1).mono ?_); (case s1 => exact HS.out); rintro x_ w1 ⟨v1, rfl, ho, hb⟩; obtain ⟨Awv, dwv, rfl⟩ := Kd.S_slice ho; have HB1 := Aside0.mk (below_step (by repeat (first | (with_reducible first | exact HB0.out | apply below_alloc | apply pw_below_drewN | apply below_drew1) | exact HB0.out)) hb); obtain ⟨awv, bwv, h1, h2, h3⟩ := new_S ho hb (by repeat (first | (with_reducible first | exact HB0.out | apply below_alloc | apply pw_below_drewN | apply below_drew1) | exact HB0.out)) (by repeat (first | (with_reducible first | exact HP0.out | apply Sz.alloc | apply Sz.drewN | apply Sz.drew) | exact HP0.out)); have Hwv_1 := Aside0.mk h1; have HCwv := Aside0.mk h2; have HP1 := Aside0.mk h3; clear h1 h2 h3 ho hb HB0 HP0)
    | (go_at_call 43; (with_reducible refine (impl_ReadGame.calls k a0 V er _ ?s1 ?s2 ?s3 ?s4).mono ?_); (case s1 => exact (LaidErr.below HLaidErr_.out (by repeat (first | (with_reducible first | exact HB1.out | apply below_alloc | apply pw_below_drewN | apply below_drew1) | exact HB1.out)))); (case s2 => exact (LaidMax.below HLaidMax_.out (by repeat (first | (with_reducible first | exact HB1.out | apply below_alloc | apply pw_below_drewN | apply below_drew1) | exact HB1.out)))); (case s3 => exact (LaidPow.below HLaidPow_.out (by repeat (first | (with_reducible first | exact HB1.out | apply below_alloc | apply pw_below_drewN | apply below_drew1) | exact HB1.out)))); (case s4 => exact HI.out); rintro x_ w2 ⟨v2, rfl, ho, hb⟩; obtain ⟨Agv, dgv, rfl⟩ := Kd.S_slice ho; have Hwv_2 := Aside0.mk (Kd.S_below (by (with_reducible repeat (first | apply Kd.S_alloc | apply Kd.S_drewN | apply Kd.S_drew)); exact Hwv_1.out) hb); have HB2 := Aside0.mk (below_step (by repeat (first | (with_reducible first | exact HB1.out | apply below_alloc | apply pw_below_drewN | apply below_drew1) | exact HB1.out)) hb); obtain ⟨agv, bgv, h1, h2, h3⟩ := new_S ho hb (by repeat (first | (with_reducible first | exact HB1.out | apply below_alloc | apply pw_below_drewN | apply below_drew1) | exact HB1.out)) (by repeat (first | (with_reducible first | exact HP1.out | apply Sz.alloc | apply Sz.drewN | apply Sz.drew) | exact HP1.out)); have Hgv_2 := Aside0.mk h1; have HCgv := Aside0.mk h2; have HP2 := Aside0.mk h3; clear h1 h2 h3 ho hb HB1 HP1 Hwv_1)
    | (go_at_call 37; (with_reducible refine (laws_eqGame.calls k _ _ V _ _ V true _ ?s1 ?s2 ?s3 ?s4 ?s5).mono ?_); (case s1 => exact (by repeat (first | exact (Kd.S_reads' Hgv_2.out).2.2 | (with_reducible refine Kd.C_alloc ?_ _) | (with_reducible refine Kd.C_drewN ?_ _) | (with_reducible refine Kd.C_drew ?_)))); (case s2 => exact (Kd.S_reads' Hgv_2.out).2.1); (case s3 => exact (by repeat (first | exact (Kd.S_reads' Hwv_2.out).2.2 | (with_reducible refine Kd.C_alloc ?_ _) | (with_reducible refine Kd.C_drewN ?_ _) | (with_reducible refine Kd.C_drew ?_)))); (case s4 => exact (Kd.S_reads' Hwv_2.out).2.1); (case s5 => exact HE.out); rintro x_ w_ ⟨rfl, ⟨nd_, rfl⟩⟩)
    | (go_at_call 37; (with_reducible refine (laws_eqGame.calls k _ _ V _ _ V true _ ?s1 ?s2 ?s3 ?s4 ?s5).mono ?_); (case s1 => exact (by repeat (first | exact (Kd.S_reads' Hgv_2.out).2.2 | (with_reducible refine Kd.C_alloc ?_ _) | (with_reducible refine Kd.C_drewN ?_ _) | (with_reducible refine Kd.C_drew ?_)))); (case s2 => exact (Kd.S_reads' Hgv_2.out).2.1); (case s3 => exact (by repeat (first | exact (Kd.S_reads' Hwv_2.out).2.2 | (with_reducible refine Kd.C_alloc ?_ _) | (with_reducible refine Kd.C_drewN ?_ _) | (with_reducible refine Kd.C_drew ?_)))); (case s4 => exact (Kd.S_reads' Hwv_2.out).2.1); (case s5 => exact HE.out); rintro x_ w_ ⟨rfl, ⟨nd_, rfl⟩⟩)
    | (go_at_call 44; (with_reducible refine (laws_markGame.calls k (fun k_ => agv ≤ k_ ∧ k_ < bgv) _ V 1 m V' w _ ?s1 ?s2 ?s3).mono ?_); (case s1 => exact (by repeat (first | (with_reducible first | exact HB2.out | apply below_alloc | apply pw_below_drewN | apply below_drew1) | exact HB2.out))); (case s2 => exact (by (with_reducible repeat (first | apply Kd.S_alloc | apply Kd.S_drewN | apply Kd.S_drew)); exact Hgv_2.out)); (case s3 => exact HN.out); rintro x_ w3 ⟨rfl, hy, hb, hk⟩; have Hwv_3 := Aside0.mk (Kd.S_kept (by (with_reducible repeat (first | apply Kd.S_alloc | apply Kd.S_drewN | apply Kd.S_drew)); exact Hwv_2.out) hk (fun k_ (h1_ : awv ≤ k_ ∧ k_ < bwv) (h2_ : agv ≤ k_ ∧ k_ < bgv) => by (have c0_ := HCwv.out; have c1_ := HCgv.out; omega))); have HB3 := Aside0.mk hb; obtain ⟨bgv_3, h1, h2, h3⟩ := mark_S (p := bwv) hy ⟨by (have c0_ := HCwv.out; have c1_ := HCgv.out; omega), Nat.le_trans (m := bgv) (by (have c0_ := HCwv.out; have c1_ := HCgv.out; omega)) (show Sz bgv _ from (by repeat (first | (with_reducible first | exact HP2.out | apply Sz.alloc | apply Sz.drewN | apply Sz.drew) | exact HP2.out)))⟩ hk.1; have HCgv_3 := Aside0.mk h2; have HP3 := Aside0.mk h3; have Hgv_3 := Aside0.mk h1; clear h1 h2 h3 hy hb hk HB2 HP2 Hwv_2 Hgv_2)
    | (go_at_call 45; (with_reducible refine (hg_held k _ _ _ V' 1 m _ ?s1 ?s2 ?s3 ?s4).mono ?_); (case s1 => exact (by repeat (first | exact (Kd.S_reads' Hgv_3.out).2.2 | (with_reducible refine Kd.C_alloc ?_ _) | (with_reducible refine Kd.C_drewN ?_ _) | (with_reducible refine Kd.C_drew ?_)))); (case s2 => exact (Kd.S_reads' Hgv_3.out).2.1); (case s3 => exact (Kd.S_reads' Hgv_3.out).1); (case s4 => exact HH.out); rintro x_ w_ ⟨rfl, ⟨nd_, rfl⟩⟩)
    | (go_at_call 43; (with_reducible refine (impl_ReadGame.calls k a0 V er _ ?s1 ?s2 ?s3 ?s4).mono ?_); (case s1 => exact (LaidErr.below HLaidErr_.out (by repeat (first | (with_reducible first | exact HB3.out | apply below_alloc | apply pw_below_drewN | apply below_drew1) | exact HB3.out)))); (case s2 => exact (LaidMax.below HLaidMax_.out (by repeat (first | (with_reducible first | exact HB3.out | apply below_alloc | apply pw_below_drewN | apply below_drew1) | exact HB3.out)))); (case s3 => exact (LaidPow.below HLaidPow_.out (by repeat (first | (with_reducible first | exact HB3.out | apply below_alloc | apply pw_below_drewN | apply below_drew1) | exact HB3.out)))); (case s4 => exact HI.out); rintro x_ w4 ⟨v4, rfl, ho, hb⟩; obtain ⟨Ahv, dhv, rfl⟩ := Kd.S_slice ho; have Hwv_4 := Aside0.mk (Kd.S_below (by (with_reducible repeat (first | apply Kd.S_alloc | apply Kd.S_drewN | apply Kd.S_drew)); exact Hwv_3.out) hb); have Hgv_4 := Aside0.mk (Kd.S_below (by (with_reducible repeat (first | apply Kd.S_alloc | apply Kd.S_drewN | apply Kd.S_drew)); exact Hgv_3.out) hb); have HB4 := Aside0.mk (below_step (by repeat (first | (with_reducible first | exact HB3.out | apply below_alloc | apply pw_below_drewN | apply below_drew1) | exact HB3.out)) hb); obtain ⟨ahv, bhv, h1, h2, h3⟩ := new_S ho hb (by repeat (first | (with_reducible first | exact HB3.out | apply below_alloc | apply pw_below_drewN | apply below_drew1) | exact HB3.out)) (by repeat (first | (with_reducible first | exact HP3.out | apply Sz.alloc | apply Sz.drewN | apply Sz.drew) | exact HP3.out)); have Hhv_4 := Aside0.mk h1; have HChv := Aside0.mk h2; have HP4 := Aside0.mk h3; clear h1 h2 h3 ho hb HB3 HP3 Hwv_3 Hgv_3)
    | (go_at_call 37; (with_reducible refine (laws_eqGame.calls k _ _ V _ _ V true _ ?s1 ?s2 ?s3 ?s4 ?s5).mono ?_); (case s1 => exact (by repeat (first | exact (Kd.S_reads' Hhv_4.out).2.2 | (with_reducible refine Kd.C_alloc ?_ _) | (with_reducible refine Kd.C_drewN ?_ _) | (with_reducible refine Kd.C_drew ?_)))); (case s2 => exact (Kd.S_reads' Hhv_4.out).2.1); (case s3 => exact (by repeat (first | exact (Kd.S_reads' Hwv_4.out).2.2 | (with_reducible refine Kd.C_alloc ?_ _) | (with_reducible refine Kd.C_drewN ?_ _) | (with_reducible refine Kd.C_drew ?_)))); (case s4 => exact (Kd.S_reads' Hwv_4.out).2.1); (case s5 => exact HE.out); rintro x_ w_ ⟨rfl, ⟨nd_, rfl⟩⟩)
    | (go_at_call 45; (with_reducible refine (hg_held k _ _ _ V' 1 m _ ?s1 ?s2 ?s3 ?s4).mono ?_); (case s1 => exact (by repeat (first | exact (Kd.S_reads' Hgv_4.out).2.2 | (with_reducible refine Kd.C_alloc ?_ _) | (with_reducible refine Kd.C_drewN ?_ _) | (with_reducible refine Kd.C_drew ?_)))); (case s2 => exact (Kd.S_reads' Hgv_4.out).2.1); (case s3 => exact (Kd.S_reads' Hgv_4.out).1); (case s4 => exact HH.out); rintro x_ w_ ⟨rfl, ⟨nd_, rfl⟩⟩))
  go_ret
  exact ⟨rfl, (by repeat (first | (with_reducible first | exact HB4.out | apply below_alloc | apply pw_below_drewN | apply below_drew1) | exact HB4.out))⟩
set_option maxHeartbeats 800000 in
set_option maxRecDepth 100000 in
theorem gl_small0 (k : Nat) (a0 : ByteArray) (w : World) (hLaidErr_ : LaidErr w) (hLaidMax_ : LaidMax w) (hLaidPow_ : LaidPow w) (hlen0 : 1048576 < (a0.size : Int)) :
    Calls Tryd.prog 12 #[.string a0] w fun e w' => e = .returned (.bool true) ∧ Below w.heap.size w w' := by
  have hlb0 : decide ((a0.size : Int) > 1048576) = true := decide_eq_true (by omega)
  have hlc0 : decide (1048576 < (a0.size : Int)) = true := decide_eq_true (by omega)
  have hld0 : decide (1048576 < a0.size) = true := decide_eq_true (by omega)
  have HB0 := Aside0.mk (Below.refl w.heap.size w)
  clear hlen0
  go_enter Tryd.func12, Tryd.ntmps12
  go_wp2_with (fail)
  go_ret
  exact ⟨rfl, (by repeat (first | (with_reducible first | exact HB0.out | apply below_alloc | apply pw_below_drewN | apply below_drew1) | exact HB0.out))⟩
def laws_FnExactReadGame.f (k : Nat) (a0 : ByteArray) : Option Bool :=
  if 1048576 < (a0.size : Int) then some true else
  (spec_ReadGame.f k a0).bind fun s => (impl_ReadGame.f k a0).bind fun g => (laws_eqGame.f k s.1 s.1).bind fun e => (laws_markGame.f k s.1 1).bind fun n => (laws_heldGame.f k n.2 1).bind fun h =>
    if g.2 = s.2 ∧ e = true ∧ 0 ≤ n.1 ∧ g.1 = s.1 ∧ h = n.1 then some true else none
theorem laws_FnExactReadGame.calls (k : Nat) (a0 : ByteArray) (r : Bool) (w : World) (hLaidErr_ : LaidErr w) (hLaidMax_ : LaidMax w) (hLaidPow_ : LaidPow w) (h : laws_FnExactReadGame.f k a0 = some r) :
    Calls Tryd.prog 12 #[.string a0] w fun e w' => e = .returned (.bool r) ∧ Below w.heap.size w w' := by
  unfold laws_FnExactReadGame.f at h
  by_cases cl0 : 1048576 < (a0.size : Int)
  · rw [if_pos cl0] at h; obtain rfl := Option.some.inj h; exact gl_small0 k a0 w hLaidErr_ hLaidMax_ hLaidPow_ cl0
  rw [if_neg cl0] at h
  obtain ⟨⟨V, er⟩, hs, h⟩ := Option.bind_eq_some_iff.mp h
  obtain ⟨g, hi, h⟩ := Option.bind_eq_some_iff.mp h
  obtain ⟨e, he, h⟩ := Option.bind_eq_some_iff.mp h
  obtain ⟨⟨m, V'⟩, hn, h⟩ := Option.bind_eq_some_iff.mp h
  obtain ⟨hd, hh, h⟩ := Option.bind_eq_some_iff.mp h
  by_cases c : g.2 = er ∧ e = true ∧ 0 ≤ m ∧ g.1 = V ∧ hd = m
  · rw [if_pos c] at h
    obtain rfl := Option.some.inj h
    obtain ⟨e2, rfl, h1, e3, e4⟩ := c
    obtain ⟨g1, g2⟩ := g
    simp only at e2 e3
    subst e2 e3 e4
    exact gl_law k a0 _ _ _ _ w hLaidErr_ hLaidMax_ hLaidPow_ (by omega) hs hi he hn hh h1
  · rw [if_neg c] at h
    cases h
end Go.Proofs.YtojjakjpdkpmiaaDoor.WalkFnExactReadGame
