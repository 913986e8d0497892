/- Laid by a program of this session out of the seat's translation. -/
import Derived.Test.YteafndooaokagaaPDiffx0
import Derived.Test.YteafndooaokagaaPDiffx13
import Derived.Test.YteafndooaokagaaPDiffx15
namespace Go.Proofs.Yteafndooaokagaa.PDiff
open Go.RowKit Go.Proofs.YteafndooaokagaaW.PrintWords Go.Proofs.YteafndooaokagaaW.PrintLast Go.Proofs.YteafndooaokagaaW.PrintMore
attribute [local go_sem] max2_int min2_int max_two min_two max_three min_three max_four min_four   -- for this text's walks alone
set_option linter.unusedVariables false
set_option linter.unusedSimpArgs false
/-! ### r07_Parts: function 21 -/
def r07_Parts.f (k : Nat) (l0 : List ByteArray) (l1 : List ByteArray) (l2 : List ByteArray) : Option ((List (S41))) := (r05_Numbers.f k (([l0, l1, l2] : List (List ByteArray)))).bind fun t380 => (if 0 < (t380.length : Int) then (if 1 < (t380.length : Int) then (if 2 < (t380.length : Int) then ((r07_Chunks.f k (rd_L3 t380 0) (rd_L3 t380 1) (rd_L3 t380 2)).bind fun t386 => (some t386)) else (none)) else (none)) else (none))
theorem r07_Parts.mono : ∀ a0 a1 a2 k, LeO (r07_Parts.f k a0 a1 a2) (r07_Parts.f (k + 1) a0 a1 a2) := by
 intro a0 a1 a2 k
 unfold r07_Parts.f
 repeat' first
   | (with_reducible exact r05_Numbers.mono _ _)
   | (with_reducible exact r07_Chunks.mono _ _ _ _)
   | (with_reducible exact LeO.refl _)
   | (with_reducible exact LeO.none _)
   | (with_reducible refine LeO.ite ?_ ?_)
   | (with_reducible refine LeO.bind ?_ (fun _ => ?_))
   | exact r05_Numbers.mono _ _
   | exact r07_Chunks.mono _ _ _ _
   | exact LeO.none _
   | refine LeO.ite ?_ ?_
   | refine LeO.bind ?_ (fun _ => ?_)
def r07_Parts.T2 : Bool × List (List Nat × List Nat) := (true, [([], []), ([0], [0]), ([1], [1]), ([], []), ([3], [3]), ([4], [4]), ([], []), ([6], [6]), ([7], [7]), ([2, 5, 8], [2, 5, 8]), ([9, 9, 0, 1, 2, 3, 4, 5, 6, 7, 8, 9], [9])])
def r07_Parts.B2 : List Nat := [0, 1, 3, 0, 8, 24, 0, 64, 192, 511, 1023]
theorem r07_Parts.tab2 : rtab .any (opsOf Try.f21 2) = r07_Parts.T2 := by kernel_rfl
theorem r07_Parts.bits2 : waitsOk r07_Parts.T2.2 r07_Parts.B2 = true := by kernel_rfl
set_option maxHeartbeats 8000000 in
set_option maxRecDepth 100000 in
theorem r07_Parts.calls (k : Nat) (P0_ : Nat → Prop) (A0 : Option Addr) (c0 : Nat) (l0 : List ByteArray) (P1_ : Nat → Prop) (A1 : Option Addr) (c1 : Nat) (l1 : List ByteArray) (P2_ : Nat → Prop) (A2 : Option Addr) (c2 : Nat) (l2 : List ByteArray) (r : List (S41)) (w : World) (hs0 : Kd.V Kd.string 9 w w.heap.size (fun k_ => P0_ k_) (.slice A0 l0.length c0) l0) (hs1 : Kd.V Kd.string 9 w w.heap.size (fun k_ => P1_ k_) (.slice A1 l1.length c1) l1) (hs2 : Kd.V Kd.string 9 w w.heap.size (fun k_ => P2_ k_) (.slice A2 l2.length c2) l2) (h : r07_Parts.f k l0 l1 l2 = some r) :
  Calls Try.prog 21 #[.slice A0 l0.length c0, .slice A1 l1.length c1, .slice A2 l2.length c2] w fun e w' => ∃ v0_ : Value, e = .returned (v0_) ∧ Kd.R k41 41 w' w.heap.size (fun k_ => (w.heap.size ≤ k_)) v0_ r ∧ Below w.heap.size w w' := by
 have HO0 := Zm (show Kd.V Kd.string 9 w w.heap.size (fun k_ => ((P0_ k_ ∨ P1_ k_ ∨ P2_ k_) ∨ w.heap.size ≤ k_)) (.slice A0 l0.length c0) l0 from Kd.V_mono hs0 (fun k_ hk => .inl (.inl hk)))
 have HO1 := Zm (show Kd.V Kd.string 9 w w.heap.size (fun k_ => ((P0_ k_ ∨ P1_ k_ ∨ P2_ k_) ∨ w.heap.size ≤ k_)) (.slice A1 l1.length c1) l1 from Kd.V_mono hs1 (fun k_ hk => .inl (.inr (.inl hk))))
 have HO2 := Zm (show Kd.V Kd.string 9 w w.heap.size (fun k_ => ((P0_ k_ ∨ P1_ k_ ∨ P2_ k_) ∨ w.heap.size ≤ k_)) (.slice A2 l2.length c2) l2 from Kd.V_mono hs2 (fun k_ hk => .inl (.inr (.inr hk))))
 have HB := Zm (Below.refl w.heap.size w)
 have H : ((r05_Numbers.f k (([l0, l1, l2] : List (List ByteArray)))).bind fun t380 => (if 0 < (t380.length : Int) then (if 1 < (t380.length : Int) then (if 2 < (t380.length : Int) then ((r07_Chunks.f k (rd_L3 t380 0) (rd_L3 t380 1) (rd_L3 t380 2)).bind fun t386 => (some t386)) else (none)) else (none)) else (none))) = some r := h
 clear h
 obtain ⟨y377, hy377⟩ : ∃ y_ : List (List ByteArray), y_ = (([l0, l1, l2] : List (List ByteArray))) := ⟨_, rfl⟩
 replace H : ((r05_Numbers.f k y377).bind fun t380 => (if 0 < (t380.length : Int) then (if 1 < (t380.length : Int) then (if 2 < (t380.length : Int) then ((r07_Chunks.f k (rd_L3 t380 0) (rd_L3 t380 1) (rd_L3 t380 2)).bind fun t386 => (some t386)) else (none)) else (none)) else (none))) = some r := by first | (rw [hy377]; with_reducible exact H) | (have H2_ := (Option.bind_some _ _).symm.trans H; rw [hy377]; with_reducible exact H2_) | (have H2_ := (Option.bind_some _ _).symm.trans H; with_reducible exact H2_) | with_reducible exact H | (rw [hy377]; exact H) | exact H
 have Ny377 := Zm hy377
 clear hy377
 replace H := Option.bind_eq_some_iff.mp H
 obtain ⟨t380, A40, H⟩ := H
 replace H : (if 0 < (t380.length : Int) then (if 1 < (t380.length : Int) then (if 2 < (t380.length : Int) then ((r07_Chunks.f k (rd_L3 t380 0) (rd_L3 t380 1) (rd_L3 t380 2)).bind fun t386 => (some t386)) else (none)) else (none)) else (none)) = some r := H
 have A4 := Zm A40
 clear A40
 by_cases c5 : 0 < (t380.length : Int)
 ·rw [if_pos c5] at H
  have c5b0 : decide (0 < (t380.length : Int)) = true := decide_eq_true c5
  have c5b1 : decide (0 < t380.length) = true := decide_eq_true (by omega)
  clear c5
  by_cases c6 : 1 < (t380.length : Int)
  ·rw [if_pos c6] at H
   have c6b0 : decide (1 < (t380.length : Int)) = true := decide_eq_true c6
   have c6b1 : decide (1 < t380.length) = true := decide_eq_true (by omega)
   clear c6
   by_cases c7 : 2 < (t380.length : Int)
   ·rw [if_pos c7] at H
    have c7b0 : decide (2 < (t380.length : Int)) = true := decide_eq_true c7
    have c7b1 : decide (2 < t380.length) = true := decide_eq_true (by omega)
    clear c7
    replace H := Option.bind_eq_some_iff.mp H
    obtain ⟨t386, A80, H⟩ := H
    replace H : (some t386) = some r := H
    have A8 := Zm A80
    clear A80
    obtain rfl := Option.some.inj H
    go_enter Try.func21, Try.ntmps21
    try go_wp2_with (first | ((with_reducible refine gate_dst (N := 11) rfl ?_); refine Kd.N_lit (Kd.slice 9 Kd.string) _ 32 ?hg (N' := 11) ?hd (xs := ([l0, l1, l2] : List (List ByteArray))) (inner := [.slice A0 l0.length c0, .slice A1 l1.length c1, .slice A2 l2.length c2]) (ok := (fun k_ => ((P0_ k_ ∨ P1_ k_ ∨ P2_ k_) ∨ w.heap.size ≤ k_))) (okp := (fun k_ => ((P0_ k_ ∨ P1_ k_ ∨ P2_ k_) ∨ w.heap.size ≤ k_))) ?hr ?hp (fun _ hk => hk) ((show ∀ k_, w.heap.size ≤ k_ → (fun k_ => ((P0_ k_ ∨ P1_ k_ ∨ P2_ k_) ∨ w.heap.size ≤ k_)) k_ from fun k_ hk => (.inr (Nat.le_trans (below_size (by repeat (first | (with_reducible first | exact HB.out | apply below_alloc | apply Zd | apply below_drew1) | exact HB.out))) hk))) _ (Nat.le_refl _)) (Below.refl _ _) (Nat.le_refl _) (by simp) ?_; (case hd => rfl); (case hg => rfl); (case hr => first | (go_simp; done) | (go_simp; rfl)); (case hp => exact (Reps.one (show Kd.FK (Kd.slice 9 Kd.string) _ _ l0 [.slice A0 l0.length c0] from (Kd.FK_slice_mk (Kd.V_reads' (Kd.V_mono (ok' := (fun k_ => ((P0_ k_ ∨ P1_ k_ ∨ P2_ k_) ∨ w.heap.size ≤ k_))) (HO0.out) (fun k_ hk => hk))).2.1 (Kd.V_F (Kd.V_mono (ok' := (fun k_ => ((P0_ k_ ∨ P1_ k_ ∨ P2_ k_) ∨ w.heap.size ≤ k_))) (HO0.out) (fun k_ hk => hk))))) (Reps.one (show Kd.FK (Kd.slice 9 Kd.string) _ _ l1 [.slice A1 l1.length c1] from (Kd.FK_slice_mk (Kd.V_reads' (Kd.V_mono (ok' := (fun k_ => ((P0_ k_ ∨ P1_ k_ ∨ P2_ k_) ∨ w.heap.size ≤ k_))) (HO1.out) (fun k_ hk => hk))).2.1 (Kd.V_F (Kd.V_mono (ok' := (fun k_ => ((P0_ k_ ∨ P1_ k_ ∨ P2_ k_) ∨ w.heap.size ≤ k_))) (HO1.out) (fun k_ hk => hk))))) (Reps.one (show Kd.FK (Kd.slice 9 Kd.string) _ _ l2 [.slice A2 l2.length c2] from (Kd.FK_slice_mk (Kd.V_reads' (Kd.V_mono (ok' := (fun k_ => ((P0_ k_ ∨ P1_ k_ ∨ P2_ k_) ∨ w.heap.size ≤ k_))) (HO2.out) (fun k_ hk => hk))).2.1 (Kd.V_F (Kd.V_mono (ok' := (fun k_ => ((P0_ k_ ∨ P1_ k_ ∨ P2_ k_) ∨ w.heap.size ≤ k_))) (HO2.out) (fun k_ hk => hk))))) (Reps.none _ _))))); intro v378 w9 ho10 hb hg_ hnew_; clear hg_ hnew_; (first | rw [← Ny377.out] at ho10 | (simp only [Int.reduceToNat] at ho10; rw [← Ny377.out] at ho10)); have n0_ := Zm (Kd.V_elder' (by (with_reducible repeat (first | apply Kd.V_alloc | apply Kd.V_drewN | apply Kd.V_drew)); exact HO0.out) (by first | exact Kd.N_base ho10 | exact Kd.S_base ho10 | exact Kd.R_base ho10) hb); have n1_ := Zm (Kd.V_elder' (by (with_reducible repeat (first | apply Kd.V_alloc | apply Kd.V_drewN | apply Kd.V_drew)); exact HO1.out) (by first | exact Kd.N_base ho10 | exact Kd.S_base ho10 | exact Kd.R_base ho10) hb); have n2_ := Zm (Kd.V_elder' (by (with_reducible repeat (first | apply Kd.V_alloc | apply Kd.V_drewN | apply Kd.V_drew)); exact HO2.out) (by first | exact Kd.N_base ho10 | exact Kd.S_base ho10 | exact Kd.R_base ho10) hb); have n3_ := Zm (Kd.N_lower ho10 (below_size (by repeat (first | (with_reducible first | exact HB.out | apply below_alloc | apply Zd | apply below_drew1) | exact HB.out)))); have n4_ := Zm (below_step (by repeat (first | (with_reducible first | exact HB.out | apply below_alloc | apply Zd | apply below_drew1) | exact HB.out)) hb); clear HO0; clear HO1; clear HO2; clear HB; have HO0 := n0_; have HO1 := n1_; have HO2 := n2_; have HO379 := n3_; have HB := n4_; clear n0_ n1_ n2_ n3_ n4_; clear hb ho10; obtain ⟨Ao11, co11, eo11⟩ := Kd.N_slice HO379.out; subst eo11) | ((with_reducible refine gate_callee (f := 32) rfl ?_); refine goesL_ (some 12) rfl rfl Try.func32 (by kernel_rfl) rfl #[.slice Ao11 y377.length co11] rfl (by (try simp only [List.map_toArray, List.map_cons, List.map_nil]); first | done | rfl | (simp only [List.length_drop, List.length_take]; rfl)) ?_; (with_reducible refine (r05_Numbers.calls k _ _ y377 t380 _ ?side1 ?side2 A4.out).mono ?_); (case side1 => repeat (first | exact (Kd.N_reads' HO379.out).2.2 | (with_reducible refine Kd.C_alloc ?_ _) | (with_reducible refine Kd.C_drewN ?_ _) | (with_reducible refine Kd.C_drew ?_))); (case side2 => exact (Kd.N_reads' HO379.out).2.1); rintro e w12 ⟨v381, rfl, ho0, hb⟩; refine ⟨_, rfl, ?_⟩; have n0_ := Zm (Kd.V_elder' (by (with_reducible repeat (first | apply Kd.V_alloc | apply Kd.V_drewN | apply Kd.V_drew)); exact HO0.out) (by first | exact Kd.N_base ho0 | exact Kd.S_base ho0 | exact Kd.R_base ho0) hb); have n1_ := Zm (Kd.V_elder' (by (with_reducible repeat (first | apply Kd.V_alloc | apply Kd.V_drewN | apply Kd.V_drew)); exact HO1.out) (by first | exact Kd.N_base ho0 | exact Kd.S_base ho0 | exact Kd.R_base ho0) hb); have n2_ := Zm (Kd.V_elder' (by (with_reducible repeat (first | apply Kd.V_alloc | apply Kd.V_drewN | apply Kd.V_drew)); exact HO2.out) (by first | exact Kd.N_base ho0 | exact Kd.S_base ho0 | exact Kd.R_base ho0) hb); have n3_ := Zm (Kd.N_elder' (by (with_reducible repeat (first | apply Kd.N_alloc | apply Kd.N_drewN | apply Kd.N_drew)); exact HO379.out) (by first | exact Kd.N_base ho0 | exact Kd.S_base ho0 | exact Kd.R_base ho0) hb); have n4_ := Zm (Kd.N_lower (Kd.N_mono (ok' := fun k_ => ((P0_ k_ ∨ P1_ k_ ∨ P2_ k_) ∨ w.heap.size ≤ k_) ∧ some k_ ≠ (.slice Ao11 y377.length co11 : Value).ownBlock) (Kd.S_N (Kd.S_bound ho0)) (fun k_ hk_ => ⟨(.inr (Nat.le_trans (below_size (by repeat (first | (with_reducible first | exact HB.out | apply below_alloc | apply Zd | apply below_drew1) | exact HB.out))) hk_.2.1)), (Kd.fresh' (Kd.N_lt (by (with_reducible repeat (first | apply Kd.N_alloc | apply Kd.N_drewN | apply Kd.N_drew)); exact HO379.out)) k_ hk_.2.1)⟩)) (below_size (by repeat (first | (with_reducible first | exact HB.out | apply below_alloc | apply Zd | apply below_drew1) | exact HB.out)))); have n5_ := Zm (below_step (by repeat (first | (with_reducible first | exact HB.out | apply below_alloc | apply Zd | apply below_drew1) | exact HB.out)) hb); clear HO0; clear HO1; clear HO2; clear HO379; clear HB; have HO0 := n0_; have HO1 := n1_; have HO2 := n2_; have HO379 := n3_; have HO382 := n4_; have HB := n5_; clear n0_ n1_ n2_ n3_ n4_ n5_; (try clear hb); (try clear hb2); (try clear hk); (try clear hi); (try clear ho0)))
    have n0_ := Zm (Kd.V_drew HO0.out)
    have n1_ := Zm (Kd.V_drew HO1.out)
    have n2_ := Zm (Kd.V_drew HO2.out)
    have n3_ := Zm (Kd.N_drew HO379.out)
    have n4_ := Zm (Kd.N_drew HO382.out)
    have n5_ := Zm (below_drew1 HB.out)
    clear HO0
    clear HO1
    clear HO2
    clear HO379
    clear HO382
    clear HB
    have HO0 := n0_
    have HO1 := n1_
    have HO2 := n2_
    have HO379 := n3_
    have HO382 := n4_
    have HB := n5_
    clear n0_ n1_ n2_ n3_ n4_ n5_
    obtain ⟨Ao14, co14, eo14⟩ := Kd.N_slice HO382.out
    (first | subst eo14 | (injection eo14 with f1_ f2_ f3_; have f4_ := f1_.symm; have f5_ := f3_.symm; clear f1_ f2_ f3_; subst f4_; subst f5_))
    have p383 : 0 ≤ (0 : Int) := (by omega)
    have q383 : 0 < (t380.length : Int) := Zo (by first | (with_reducible assumption) | assumption)
    obtain ⟨ad383, A383_0, c383_0, e383, hx383_0, hl383_0, hi383_0⟩ := at_L3 (Kd.N_reads' HO382.out).2.2 0 p383 q383
    cases e383
    obtain ⟨ce383, hce383, hMe383, hcc383⟩ := Kd.N_get HO382.out [] 0 p383 (by first | exact q383 | exact Zo (by first | (with_reducible assumption) | assumption) | (have e_ := (Kd.N_reads' HO382.out).1; omega))
    obtain ⟨ua383_0, uc383_0, rfl, ul383_0, ge383_0⟩ := Kd.FK_slice_open hMe383
    have hv383_0 := hcc383 0 _ rfl
    rw [Nat.add_zero, show ((Kd.slice 3 (Kd.int .i64))).sz = 1 from rfl, Nat.mul_one] at hv383_0
    replace hv383_0 := Option.some.inj (hv383_0.symm.trans hx383_0)
    injection hv383_0 with hva_ hvn_ hvc_
    rw [hva_] at ge383_0
    rw [hvc_] at ul383_0
    have HL383_0 := Zm (show Kd.V (Kd.int .i64) 3 _ w.heap.size _ _ (rd_L3 t380 0) from Kd.V_mk ul383_0 ge383_0)
    clear hva_ hvn_ hvc_ ge383_0 ul383_0
    clear hcc383 hce383
    have qi383 : (0 < t380.length) = True := eq_true (by omega)
    (try rw [show ((0 : Int)).toNat = 0 from rfl] at hx383_0)
    (try rw [Addr.add_zero'] at hx383_0)
    have HR383_0 := Zm hi383_0
    have HC383_0 := Zm hl383_0
    clear hi383_0 hl383_0
    replace p383 := eq_true p383
    replace q383 := eq_true q383
    have p384 : 0 ≤ (1 : Int) := (by omega)
    have q384 : 1 < (t380.length : Int) := Zo (by first | (with_reducible assumption) | assumption)
    obtain ⟨ad384, A384_0, c384_0, e384, hx384_0, hl384_0, hi384_0⟩ := at_L3 (Kd.N_reads' HO382.out).2.2 1 p384 q384
    obtain rfl : ad383 = ad384 := (by injection e384)
    obtain ⟨ce384, hce384, hMe384, hcc384⟩ := Kd.N_get HO382.out [] 1 p384 (by first | exact q384 | exact Zo (by first | (with_reducible assumption) | assumption) | (have e_ := (Kd.N_reads' HO382.out).1; omega))
    obtain ⟨ua384_0, uc384_0, rfl, ul384_0, ge384_0⟩ := Kd.FK_slice_open hMe384
    have hv384_0 := hcc384 0 _ rfl
    rw [Nat.add_zero, show ((Kd.slice 3 (Kd.int .i64))).sz = 1 from rfl, Nat.mul_one] at hv384_0
    replace hv384_0 := Option.some.inj (hv384_0.symm.trans hx384_0)
    injection hv384_0 with hva_ hvn_ hvc_
    rw [hva_] at ge384_0
    rw [hvc_] at ul384_0
    have HL384_0 := Zm (show Kd.V (Kd.int .i64) 3 _ w.heap.size _ _ (rd_L3 t380 1) from Kd.V_mk ul384_0 ge384_0)
    clear hva_ hvn_ hvc_ ge384_0 ul384_0
    clear hcc384 hce384
    (try simp only [show (1 : Int).toNat = 1 from rfl, Nat.reduceMul, Nat.reduceEqDiff, Go.Addr.add, ↓reduceIte] at hx384_0)
    have qi384 : (1 < t380.length) = True := eq_true (by omega)
    (try rw [show ((1 : Int)).toNat = 1 from rfl] at hx384_0)
    have HR384_0 := Zm hi384_0
    have HC384_0 := Zm hl384_0
    clear hi384_0 hl384_0
    replace p384 := eq_true p384
    replace q384 := eq_true q384
    have p385 : 0 ≤ (2 : Int) := (by omega)
    have q385 : 2 < (t380.length : Int) := Zo (by first | (with_reducible assumption) | assumption)
    obtain ⟨ad385, A385_0, c385_0, e385, hx385_0, hl385_0, hi385_0⟩ := at_L3 (Kd.N_reads' HO382.out).2.2 2 p385 q385
    obtain rfl : ad383 = ad385 := (by injection e385)
    obtain ⟨ce385, hce385, hMe385, hcc385⟩ := Kd.N_get HO382.out [] 2 p385 (by first | exact q385 | exact Zo (by first | (with_reducible assumption) | assumption) | (have e_ := (Kd.N_reads' HO382.out).1; omega))
    obtain ⟨ua385_0, uc385_0, rfl, ul385_0, ge385_0⟩ := Kd.FK_slice_open hMe385
    have hv385_0 := hcc385 0 _ rfl
    rw [Nat.add_zero, show ((Kd.slice 3 (Kd.int .i64))).sz = 1 from rfl, Nat.mul_one] at hv385_0
    replace hv385_0 := Option.some.inj (hv385_0.symm.trans hx385_0)
    injection hv385_0 with hva_ hvn_ hvc_
    rw [hva_] at ge385_0
    rw [hvc_] at ul385_0
    have HL385_0 := Zm (show Kd.V (Kd.int .i64) 3 _ w.heap.size _ _ (rd_L3 t380 2) from Kd.V_mk ul385_0 ge385_0)
    clear hva_ hvn_ hvc_ ge385_0 ul385_0
    clear hcc385 hce385
    (try simp only [show (2 : Int).toNat = 2 from rfl, Nat.reduceMul, Nat.reduceEqDiff, Go.Addr.add, ↓reduceIte] at hx385_0)
    have qi385 : (2 < t380.length) = True := eq_true (by omega)
    (try rw [show ((2 : Int)).toNat = 2 from rfl] at hx385_0)
    have HR385_0 := Zm hi385_0
    have HC385_0 := Zm hl385_0
    clear hi385_0 hl385_0
    replace p385 := eq_true p385
    replace q385 := eq_true q385
    refine start_ (n := 11) (S := fun w' => w'.cell? ad383 = some (.slice A383_0 (rd_L3 t380 0).length c383_0) ∧ w'.cell? ⟨ad383.block, ad383.off + 1, none⟩ = some (.slice A384_0 (rd_L3 t380 1).length c384_0) ∧ w'.cell? ⟨ad383.block, ad383.off + 2, none⟩ = some (.slice A385_0 (rd_L3 t380 2).length c385_0)) (ds := []) #[false, false, false, false, false, false, false, false, false, false, false] (by kernel_rfl) rfl rfl ⟨hx383_0, hx384_0, hx385_0⟩ (fun hHeld => ?_); refine with_tabW r07_Parts.tab2 r07_Parts.bits2 (fun HT_ HW_ => ?_)
    generalize w12.drew = w13 at HO0 HO1 HO2 HO379 HO382 HB HL383_0 HL384_0 HL385_0 HR383_0 HR384_0 HR385_0 hx383_0 hx384_0 hx385_0 hHeld ⊢
    refine pure_ (i := 0) (N := some 13) (v := ?_) (a' := ?_) #[true, false, false, false, false, false, false, false, false, false, false] rfl rfl (any_of HT_.out (by kernel_rfl)) (fun _ _ _ h => h) (Or.inl ⟨by rfl, ?_⟩) ?_ ?_
    rotate_left
    ·intro w'
     go_simp
     with_reducible rfl
    rotate_left
    ·simp only [Act.put, List.setIfInBounds_toArray, List.set_cons_zero, List.set_cons_succ, i64_w, i32_w]
     rfl
    refine pure_ (i := 1) (N := some 14) (v := ?_) (a' := ?_) #[true, true, false, false, false, false, false, false, false, false, false] rfl rfl (any_of HT_.out (by kernel_rfl)) (fun _ _ _ h => h) (Or.inl ⟨by rfl, ?_⟩) ?_ ?_
    rotate_left
    ·intro w'
     go_simp
     with_reducible rfl
    rotate_left
    ·simp only [Act.put, List.setIfInBounds_toArray, List.set_cons_zero, List.set_cons_succ, i64_w, i32_w]
     rfl
    refine pure_ (i := 3) (N := some 16) (v := ?_) (a' := ?_) #[true, true, false, true, false, false, false, false, false, false, false] rfl rfl (any_of HT_.out (by kernel_rfl)) (fun _ _ _ h => h) (Or.inl ⟨by rfl, ?_⟩) ?_ ?_
    rotate_left
    ·intro w'
     go_simp
     with_reducible rfl
    rotate_left
    ·simp only [Act.put, List.setIfInBounds_toArray, List.set_cons_zero, List.set_cons_succ, i64_w, i32_w]
     rfl
    refine pure_ (i := 4) (N := some 17) (v := ?_) (a' := ?_) #[true, true, false, true, true, false, false, false, false, false, false] rfl rfl (any_of HT_.out (by kernel_rfl)) (fun _ _ _ h => h) (Or.inl ⟨by rfl, ?_⟩) ?_ ?_
    rotate_left
    ·intro w'
     go_simp
     with_reducible rfl
    rotate_left
    ·simp only [Act.put, List.setIfInBounds_toArray, List.set_cons_zero, List.set_cons_succ, i64_w, i32_w]
     rfl
    refine pure_ (i := 6) (N := some 19) (v := ?_) (a' := ?_) #[true, true, false, true, true, false, true, false, false, false, false] rfl rfl (any_of HT_.out (by kernel_rfl)) (fun _ _ _ h => h) (Or.inl ⟨by rfl, ?_⟩) ?_ ?_
    rotate_left
    ·intro w'
     go_simp
     with_reducible rfl
    rotate_left
    ·simp only [Act.put, List.setIfInBounds_toArray, List.set_cons_zero, List.set_cons_succ, i64_w, i32_w]
     rfl
    refine pure_ (i := 7) (N := some 20) (v := ?_) (a' := ?_) #[true, true, false, true, true, false, true, true, false, false, false] rfl rfl (any_of HT_.out (by kernel_rfl)) (fun _ _ _ h => h) (Or.inl ⟨by rfl, ?_⟩) ?_ ?_
    rotate_left
    ·intro w'
     go_simp
     with_reducible rfl
    rotate_left
    ·simp only [Act.put, List.setIfInBounds_toArray, List.set_cons_zero, List.set_cons_succ, i64_w, i32_w]
     rfl
    refine take_ (i := 2) (N := some 15) (v := ?_) (a' := ?_) #[true, true, true, true, true, false, true, true, false, false, false] rfl rfl (take_ofW HT_.out HW_.out (by kernel_rfl)) (fun _ _ _ h => h) (Or.inl ⟨by rfl, ?_⟩) hHeld ?_ ?_
    rotate_left
    ·rintro w' ⟨s0, s1, s2⟩
     go_simp
     with_reducible rfl
    rotate_left
    ·simp only [Act.put, List.setIfInBounds_toArray, List.set_cons_zero, List.set_cons_succ, i64_w, i32_w]
     rfl
    refine take_ (i := 5) (N := some 18) (v := ?_) (a' := ?_) #[true, true, true, true, true, true, true, true, false, false, false] rfl rfl (take_ofW HT_.out HW_.out (by kernel_rfl)) (fun _ _ _ h => h) (Or.inl ⟨by rfl, ?_⟩) hHeld ?_ ?_
    rotate_left
    ·rintro w' ⟨s0, s1, s2⟩
     go_simp
     with_reducible rfl
    rotate_left
    ·simp only [Act.put, List.setIfInBounds_toArray, List.set_cons_zero, List.set_cons_succ, i64_w, i32_w]
     rfl
    refine take_ (i := 8) (N := some 21) (v := ?_) (a' := ?_) #[true, true, true, true, true, true, true, true, true, false, false] rfl rfl (take_ofW HT_.out HW_.out (by kernel_rfl)) (fun _ _ _ h => h) (Or.inl ⟨by rfl, ?_⟩) hHeld ?_ ?_
    rotate_left
    ·rintro w' ⟨s0, s1, s2⟩
     go_simp
     with_reducible rfl
    rotate_left
    ·simp only [Act.put, List.setIfInBounds_toArray, List.set_cons_zero, List.set_cons_succ, i64_w, i32_w]
     rfl
    refine one_ (i := 9) (N := some 22) #[true, true, true, true, true, true, true, true, true, true, false] rfl rfl (one_of HT_.out (by kernel_rfl)) (by decide) (fun K hK => ?_)
    refine goes_ Try.func14 (by kernel_rfl) rfl #[.slice A383_0 (rd_L3 t380 0).length c383_0, .slice A384_0 (rd_L3 t380 1).length c384_0, .slice A385_0 (rd_L3 t380 2).length c385_0] (by rfl) rfl rfl (by (try simp only [List.map_toArray, List.map_cons, List.map_nil]); first | done | rfl | (simp only [List.length_drop, List.length_take]; rfl)) ?_
    with_reducible refine (r07_Chunks.calls k _ _ (rd_L3 t380 0) _ _ (rd_L3 t380 1) _ _ (rd_L3 t380 2) t386 _ ?side1 ?side2 ?side3 ?side4 ?side5 ?side6 A8.out).mono ?_
    (case side1 => repeat (first | exact (by repeat (first | (with_reducible exact HR383_0.out) | (with_reducible refine Kd.C_alloc ?_ _) | (with_reducible refine Kd.C_drewN ?_ _) | (with_reducible refine Kd.C_drew ?_) | exact HR383_0.out)) | (with_reducible refine Kd.C_alloc ?_ _) | (with_reducible refine Kd.C_drewN ?_ _) | (with_reducible refine Kd.C_drew ?_)))
    (case side2 => exact HC383_0.out)
    (case side3 => repeat (first | exact (by repeat (first | (with_reducible exact HR384_0.out) | (with_reducible refine Kd.C_alloc ?_ _) | (with_reducible refine Kd.C_drewN ?_ _) | (with_reducible refine Kd.C_drew ?_) | exact HR384_0.out)) | (with_reducible refine Kd.C_alloc ?_ _) | (with_reducible refine Kd.C_drewN ?_ _) | (with_reducible refine Kd.C_drew ?_)))
    (case side4 => exact HC384_0.out)
    (case side5 => repeat (first | exact (by repeat (first | (with_reducible exact HR385_0.out) | (with_reducible refine Kd.C_alloc ?_ _) | (with_reducible refine Kd.C_drewN ?_ _) | (with_reducible refine Kd.C_drew ?_) | exact HR385_0.out)) | (with_reducible refine Kd.C_alloc ?_ _) | (with_reducible refine Kd.C_drewN ?_ _) | (with_reducible refine Kd.C_drew ?_)))
    (case side6 => exact HC385_0.out)
    rintro e w15 ⟨v387, rfl, ho0, hb⟩
    have HS0_ := (hb.cell (World.block_lt_of_cell? _ _ (hHeld.1))).trans (hHeld.1)
    have HS1_ := (hb.cell (World.block_lt_of_cell? _ _ (hHeld.2.1))).trans (hHeld.2.1)
    have HS2_ := (hb.cell (World.block_lt_of_cell? _ _ (hHeld.2.2))).trans (hHeld.2.2)
    refine ⟨_, rfl, ?_⟩
    have n0_ := Zm (Kd.V_elder' (by (with_reducible repeat (first | apply Kd.V_alloc | apply Kd.V_drewN | apply Kd.V_drew)); exact HO0.out) (Kd.R_base ho0) hb)
    have n1_ := Zm (Kd.V_elder' (by (with_reducible repeat (first | apply Kd.V_alloc | apply Kd.V_drewN | apply Kd.V_drew)); exact HO1.out) (Kd.R_base ho0) hb)
    have n2_ := Zm (Kd.V_elder' (by (with_reducible repeat (first | apply Kd.V_alloc | apply Kd.V_drewN | apply Kd.V_drew)); exact HO2.out) (Kd.R_base ho0) hb)
    have n3_ := Zm (Kd.N_elder' (by (with_reducible repeat (first | apply Kd.N_alloc | apply Kd.N_drewN | apply Kd.N_drew)); exact HO379.out) (Kd.R_base ho0) hb)
    have n4_ := Zm (Kd.N_elder' (by (with_reducible repeat (first | apply Kd.N_alloc | apply Kd.N_drewN | apply Kd.N_drew)); exact HO382.out) (Kd.R_base ho0) hb)
    have n5_ := Zm (Kd.V_elder' (by (with_reducible repeat (first | apply Kd.V_alloc | apply Kd.V_drewN | apply Kd.V_drew)); exact HL383_0.out) (Kd.R_base ho0) hb)
    have n6_ := Zm (Kd.V_elder' (by (with_reducible repeat (first | apply Kd.V_alloc | apply Kd.V_drewN | apply Kd.V_drew)); exact HL384_0.out) (Kd.R_base ho0) hb)
    have n7_ := Zm (Kd.V_elder' (by (with_reducible repeat (first | apply Kd.V_alloc | apply Kd.V_drewN | apply Kd.V_drew)); exact HL385_0.out) (Kd.R_base ho0) hb)
    have n8_ := Zm (Kd.R_lower (Kd.R_newM (M := fun k_ => (w.heap.size ≤ k_)) ho0 (below_size (by repeat (first | (with_reducible first | exact HB.out | apply below_alloc | apply Zd | apply below_drew1) | exact HB.out))) (fun k_ h_ => h_)) (below_size (by repeat (first | (with_reducible first | exact HB.out | apply below_alloc | apply Zd | apply below_drew1) | exact HB.out))))
    have n9_ := Zm (Kd.C_below (by repeat (first | (with_reducible exact HR383_0.out) | (with_reducible refine Kd.C_alloc ?_ _) | (with_reducible refine Kd.C_drewN ?_ _) | (with_reducible refine Kd.C_drew ?_) | exact HR383_0.out)) hb)
    have n10_ := Zm (Kd.C_below (by repeat (first | (with_reducible exact HR384_0.out) | (with_reducible refine Kd.C_alloc ?_ _) | (with_reducible refine Kd.C_drewN ?_ _) | (with_reducible refine Kd.C_drew ?_) | exact HR384_0.out)) hb)
    have n11_ := Zm (Kd.C_below (by repeat (first | (with_reducible exact HR385_0.out) | (with_reducible refine Kd.C_alloc ?_ _) | (with_reducible refine Kd.C_drewN ?_ _) | (with_reducible refine Kd.C_drew ?_) | exact HR385_0.out)) hb)
    have n12_ := Zm (below_step (by repeat (first | (with_reducible first | exact HB.out | apply below_alloc | apply Zd | apply below_drew1) | exact HB.out)) hb)
    clear HO0
    clear HO1
    clear HO2
    clear HO379
    clear HO382
    clear HL383_0
    clear HL384_0
    clear HL385_0
    clear HR383_0
    clear HR384_0
    clear HR385_0
    clear HB
    have HO0 := n0_
    have HO1 := n1_
    have HO2 := n2_
    have HO379 := n3_
    have HO382 := n4_
    have HL383_0 := n5_
    have HL384_0 := n6_
    have HL385_0 := n7_
    have HO388 := n8_
    have HR383_0 := n9_
    have HR384_0 := n10_
    have HR385_0 := n11_
    have HB := n12_
    clear n0_ n1_ n2_ n3_ n4_ n5_ n6_ n7_ n8_ n9_ n10_ n11_ n12_
    (try clear hb)
    (try clear hb2)
    (try clear hk)
    (try clear hi)
    (try clear ho0)
    refine hK.out _ _ ⟨HS0_, HS1_, HS2_⟩ (fun hHeld => ?_)
    clear hK K
    refine norm_ (a' := ?_) ?_ ?_
    rotate_left
    ·show Act.put _ (some 22) _ = _
     simp only [Act.put, List.setIfInBounds_toArray, List.set_cons_zero, List.set_cons_succ, i64_w, i32_w]
     rfl
    refine pure_ (i := 10) (N := some 6) (v := ?_) (a' := ?_) #[true, true, true, true, true, true, true, true, true, true, true] rfl rfl (any_of HT_.out (by kernel_rfl)) (fun _ _ _ h => h) (Or.inl ⟨by rfl, ?_⟩) ?_ ?_
    rotate_left
    ·intro w'
     go_simp
     with_reducible rfl
    rotate_left
    ·simp only [Act.put, List.setIfInBounds_toArray, List.set_cons_zero, List.set_cons_succ, i64_w, i32_w]
     rfl
    refine done_ (done_of HT_.out (by kernel_rfl)) ?_
    try go_wp2
    go_ret
    exact ⟨_, by first | rfl | (simp [errW_none, errW_some] <;> rfl) | (simp [*, errW_none, errW_some] <;> rfl), by (with_reducible repeat (first | apply Kd.R_alloc | apply Kd.R_drewN | apply Kd.R_drew)); exact Kd.R_mono HO388.out (fun _ hk => hk.1), by repeat (first | (with_reducible first | exact HB.out | apply below_alloc | apply Zd | apply below_drew1) | exact HB.out)⟩
   ·rw [if_neg c7] at H
    exact absurd H (by simp)
  ·rw [if_neg c6] at H
   exact absurd H (by simp)
 ·rw [if_neg c5] at H
  exact absurd H (by simp)
end Go.Proofs.Yteafndooaokagaa.PDiff
