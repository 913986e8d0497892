/- Laid by a program of this session out of the seat's translation. -/
import Derived.Test.YteafndooaokagaaPDiffx0
import Derived.Test.YteafndooaokagaaPDiffx7
import Derived.Test.YteafndooaokagaaPDiffx8
namespace Go.Proofs.Yteafndooaokagaa.PDiff
open Go.RowKit Go.Proofs.YteafndooaokagaaW.PrintWords Go.Proofs.YteafndooaokagaaW.PrintLast Go.Proofs.YteafndooaokagaaW.PrintMore
attribute [local go_sem] max2_int min2_int max_two min_two max_three min_three max_four min_four   -- for this text's walks alone
set_option linter.unusedVariables false
set_option linter.unusedSimpArgs false
/-! ### diff3_Parts: function 20 -/
def diff3_Parts.f (k : Nat) (l0 : List ByteArray) (l1 : List ByteArray) (l2 : List ByteArray) : Option ((List (S41))) := (lcs_Numbers.f k (([l0, l1, l2] : List (List ByteArray)))).bind fun t171 => (if 0 < (t171.length : Int) then (if 1 < (t171.length : Int) then (if 2 < (t171.length : Int) then ((diff3_Chunks.f k (rd_L3 t171 0) (rd_L3 t171 1) (rd_L3 t171 2)).bind fun t177 => (some t177)) else (none)) else (none)) else (none))
theorem diff3_Parts.mono : ∀ a0 a1 a2 k, LeO (diff3_Parts.f k a0 a1 a2) (diff3_Parts.f (k + 1) a0 a1 a2) := by
 intro a0 a1 a2 k
 unfold diff3_Parts.f
 repeat' first
   | (with_reducible exact diff3_Chunks.mono _ _ _ _)
   | (with_reducible exact lcs_Numbers.mono _ _)
   | (with_reducible exact LeO.refl _)
   | (with_reducible exact LeO.none _)
   | (with_reducible refine LeO.ite ?_ ?_)
   | (with_reducible refine LeO.bind ?_ (fun _ => ?_))
   | exact diff3_Chunks.mono _ _ _ _
   | exact lcs_Numbers.mono _ _
   | exact LeO.none _
   | refine LeO.ite ?_ ?_
   | refine LeO.bind ?_ (fun _ => ?_)
def diff3_Parts.T2 : Bool × List (List Nat × List Nat) := (true, [([], []), ([0], [0]), ([1], [1]), ([], []), ([3], [3]), ([4], [4]), ([], []), ([6], [6]), ([7], [7]), ([2, 5, 8], [2, 5, 8]), ([9, 9, 0, 1, 2, 3, 4, 5, 6, 7, 8, 9], [9])])
def diff3_Parts.B2 : List Nat := [0, 1, 3, 0, 8, 24, 0, 64, 192, 511, 1023]
theorem diff3_Parts.tab2 : rtab .any (opsOf Try.f20 2) = diff3_Parts.T2 := by kernel_rfl
theorem diff3_Parts.bits2 : waitsOk diff3_Parts.T2.2 diff3_Parts.B2 = true := by kernel_rfl
set_option maxHeartbeats 8000000 in
set_option maxRecDepth 100000 in
theorem diff3_Parts.calls (k : Nat) (P0_ : Nat → Prop) (A0 : Option Addr) (c0 : Nat) (l0 : List ByteArray) (P1_ : Nat → Prop) (A1 : Option Addr) (c1 : Nat) (l1 : List ByteArray) (P2_ : Nat → Prop) (A2 : Option Addr) (c2 : Nat) (l2 : List ByteArray) (r : List (S41)) (w : World) (hs0 : Kd.V Kd.string 9 w w.heap.size (fun k_ => P0_ k_) (.slice A0 l0.length c0) l0) (hs1 : Kd.V Kd.string 9 w w.heap.size (fun k_ => P1_ k_) (.slice A1 l1.length c1) l1) (hs2 : Kd.V Kd.string 9 w w.heap.size (fun k_ => P2_ k_) (.slice A2 l2.length c2) l2) (h : diff3_Parts.f k l0 l1 l2 = some r) :
  Calls Try.prog 20 #[.slice A0 l0.length c0, .slice A1 l1.length c1, .slice A2 l2.length c2] w fun e w' => ∃ v0_ : Value, e = .returned (v0_) ∧ Kd.R k41 41 w' w.heap.size (fun k_ => (w.heap.size ≤ k_)) v0_ r ∧ Below w.heap.size w w' := by
 have HO0 := Zm (show Kd.V Kd.string 9 w w.heap.size (fun k_ => ((P0_ k_ ∨ P1_ k_ ∨ P2_ k_) ∨ w.heap.size ≤ k_)) (.slice A0 l0.length c0) l0 from Kd.V_mono hs0 (fun k_ hk => .inl (.inl hk)))
 have HO1 := Zm (show Kd.V Kd.string 9 w w.heap.size (fun k_ => ((P0_ k_ ∨ P1_ k_ ∨ P2_ k_) ∨ w.heap.size ≤ k_)) (.slice A1 l1.length c1) l1 from Kd.V_mono hs1 (fun k_ hk => .inl (.inr (.inl hk))))
 have HO2 := Zm (show Kd.V Kd.string 9 w w.heap.size (fun k_ => ((P0_ k_ ∨ P1_ k_ ∨ P2_ k_) ∨ w.heap.size ≤ k_)) (.slice A2 l2.length c2) l2 from Kd.V_mono hs2 (fun k_ hk => .inl (.inr (.inr hk))))
 have HB := Zm (Below.refl w.heap.size w)
 have H : ((lcs_Numbers.f k (([l0, l1, l2] : List (List ByteArray)))).bind fun t171 => (if 0 < (t171.length : Int) then (if 1 < (t171.length : Int) then (if 2 < (t171.length : Int) then ((diff3_Chunks.f k (rd_L3 t171 0) (rd_L3 t171 1) (rd_L3 t171 2)).bind fun t177 => (some t177)) else (none)) else (none)) else (none))) = some r := h
 clear h
 obtain ⟨y168, hy168⟩ : ∃ y_ : List (List ByteArray), y_ = (([l0, l1, l2] : List (List ByteArray))) := ⟨_, rfl⟩
 replace H : ((lcs_Numbers.f k y168).bind fun t171 => (if 0 < (t171.length : Int) then (if 1 < (t171.length : Int) then (if 2 < (t171.length : Int) then ((diff3_Chunks.f k (rd_L3 t171 0) (rd_L3 t171 1) (rd_L3 t171 2)).bind fun t177 => (some t177)) else (none)) else (none)) else (none))) = some r := by first | (rw [hy168]; with_reducible exact H) | (have H2_ := (Option.bind_some _ _).symm.trans H; rw [hy168]; with_reducible exact H2_) | (have H2_ := (Option.bind_some _ _).symm.trans H; with_reducible exact H2_) | with_reducible exact H | (rw [hy168]; exact H) | exact H
 have Ny168 := Zm hy168
 clear hy168
 replace H := Option.bind_eq_some_iff.mp H
 obtain ⟨t171, A40, H⟩ := H
 replace H : (if 0 < (t171.length : Int) then (if 1 < (t171.length : Int) then (if 2 < (t171.length : Int) then ((diff3_Chunks.f k (rd_L3 t171 0) (rd_L3 t171 1) (rd_L3 t171 2)).bind fun t177 => (some t177)) else (none)) else (none)) else (none)) = some r := H
 have A4 := Zm A40
 clear A40
 by_cases c5 : 0 < (t171.length : Int)
 ·rw [if_pos c5] at H
  have c5b0 : decide (0 < (t171.length : Int)) = true := decide_eq_true c5
  have c5b1 : decide (0 < t171.length) = true := decide_eq_true (by omega)
  clear c5
  by_cases c6 : 1 < (t171.length : Int)
  ·rw [if_pos c6] at H
   have c6b0 : decide (1 < (t171.length : Int)) = true := decide_eq_true c6
   have c6b1 : decide (1 < t171.length) = true := decide_eq_true (by omega)
   clear c6
   by_cases c7 : 2 < (t171.length : Int)
   ·rw [if_pos c7] at H
    have c7b0 : decide (2 < (t171.length : Int)) = true := decide_eq_true c7
    have c7b1 : decide (2 < t171.length) = true := decide_eq_true (by omega)
    clear c7
    replace H := Option.bind_eq_some_iff.mp H
    obtain ⟨t177, A80, H⟩ := H
    replace H : (some t177) = some r := H
    have A8 := Zm A80
    clear A80
    obtain rfl := Option.some.inj H
    go_enter Try.func20, Try.ntmps20
    try go_wp2_with (first | ((with_reducible refine gate_dst (N := 11) rfl ?_); refine Kd.N_lit (Kd.slice 9 Kd.string) _ 32 ?hg (N' := 11) ?hd (xs := ([l0, l1, l2] : List (List ByteArray))) (inner := [.slice A0 l0.length c0, .slice A1 l1.length c1, .slice A2 l2.length c2]) (ok := (fun k_ => ((P0_ k_ ∨ P1_ k_ ∨ P2_ k_) ∨ w.heap.size ≤ k_))) (okp := (fun k_ => ((P0_ k_ ∨ P1_ k_ ∨ P2_ k_) ∨ w.heap.size ≤ k_))) ?hr ?hp (fun _ hk => hk) ((show ∀ k_, w.heap.size ≤ k_ → (fun k_ => ((P0_ k_ ∨ P1_ k_ ∨ P2_ k_) ∨ w.heap.size ≤ k_)) k_ from fun k_ hk => (.inr (Nat.le_trans (below_size (by repeat (first | (with_reducible first | exact HB.out | apply below_alloc | apply Zd | apply below_drew1) | exact HB.out))) hk))) _ (Nat.le_refl _)) (Below.refl _ _) (Nat.le_refl _) (by simp) ?_; (case hd => rfl); (case hg => rfl); (case hr => first | (go_simp; done) | (go_simp; rfl)); (case hp => exact (Reps.one (show Kd.FK (Kd.slice 9 Kd.string) _ _ l0 [.slice A0 l0.length c0] from (Kd.FK_slice_mk (Kd.V_reads' (Kd.V_mono (ok' := (fun k_ => ((P0_ k_ ∨ P1_ k_ ∨ P2_ k_) ∨ w.heap.size ≤ k_))) (HO0.out) (fun k_ hk => hk))).2.1 (Kd.V_F (Kd.V_mono (ok' := (fun k_ => ((P0_ k_ ∨ P1_ k_ ∨ P2_ k_) ∨ w.heap.size ≤ k_))) (HO0.out) (fun k_ hk => hk))))) (Reps.one (show Kd.FK (Kd.slice 9 Kd.string) _ _ l1 [.slice A1 l1.length c1] from (Kd.FK_slice_mk (Kd.V_reads' (Kd.V_mono (ok' := (fun k_ => ((P0_ k_ ∨ P1_ k_ ∨ P2_ k_) ∨ w.heap.size ≤ k_))) (HO1.out) (fun k_ hk => hk))).2.1 (Kd.V_F (Kd.V_mono (ok' := (fun k_ => ((P0_ k_ ∨ P1_ k_ ∨ P2_ k_) ∨ w.heap.size ≤ k_))) (HO1.out) (fun k_ hk => hk))))) (Reps.one (show Kd.FK (Kd.slice 9 Kd.string) _ _ l2 [.slice A2 l2.length c2] from (Kd.FK_slice_mk (Kd.V_reads' (Kd.V_mono (ok' := (fun k_ => ((P0_ k_ ∨ P1_ k_ ∨ P2_ k_) ∨ w.heap.size ≤ k_))) (HO2.out) (fun k_ hk => hk))).2.1 (Kd.V_F (Kd.V_mono (ok' := (fun k_ => ((P0_ k_ ∨ P1_ k_ ∨ P2_ k_) ∨ w.heap.size ≤ k_))) (HO2.out) (fun k_ hk => hk))))) (Reps.none _ _))))); intro v169 w9 ho10 hb hg_ hnew_; clear hg_ hnew_; (first | rw [← Ny168.out] at ho10 | (simp only [Int.reduceToNat] at ho10; rw [← Ny168.out] at ho10)); have n0_ := Zm (Kd.V_elder' (by (with_reducible repeat (first | apply Kd.V_alloc | apply Kd.V_drewN | apply Kd.V_drew)); exact HO0.out) (by first | exact Kd.N_base ho10 | exact Kd.S_base ho10 | exact Kd.R_base ho10) hb); have n1_ := Zm (Kd.V_elder' (by (with_reducible repeat (first | apply Kd.V_alloc | apply Kd.V_drewN | apply Kd.V_drew)); exact HO1.out) (by first | exact Kd.N_base ho10 | exact Kd.S_base ho10 | exact Kd.R_base ho10) hb); have n2_ := Zm (Kd.V_elder' (by (with_reducible repeat (first | apply Kd.V_alloc | apply Kd.V_drewN | apply Kd.V_drew)); exact HO2.out) (by first | exact Kd.N_base ho10 | exact Kd.S_base ho10 | exact Kd.R_base ho10) hb); have n3_ := Zm (Kd.N_lower ho10 (below_size (by repeat (first | (with_reducible first | exact HB.out | apply below_alloc | apply Zd | apply below_drew1) | exact HB.out)))); have n4_ := Zm (below_step (by repeat (first | (with_reducible first | exact HB.out | apply below_alloc | apply Zd | apply below_drew1) | exact HB.out)) hb); clear HO0; clear HO1; clear HO2; clear HB; have HO0 := n0_; have HO1 := n1_; have HO2 := n2_; have HO170 := n3_; have HB := n4_; clear n0_ n1_ n2_ n3_ n4_; clear hb ho10; obtain ⟨Ao11, co11, eo11⟩ := Kd.N_slice HO170.out; subst eo11) | ((with_reducible refine gate_callee (f := 31) rfl ?_); refine goesL_ (some 12) rfl rfl Try.func31 (by kernel_rfl) rfl #[.slice Ao11 y168.length co11] rfl (by (try simp only [List.map_toArray, List.map_cons, List.map_nil]); first | done | rfl | (simp only [List.length_drop, List.length_take]; rfl)) ?_; (with_reducible refine (lcs_Numbers.calls k _ _ y168 t171 _ ?side1 ?side2 A4.out).mono ?_); (case side1 => repeat (first | exact (Kd.N_reads' HO170.out).2.2 | (with_reducible refine Kd.C_alloc ?_ _) | (with_reducible refine Kd.C_drewN ?_ _) | (with_reducible refine Kd.C_drew ?_))); (case side2 => exact (Kd.N_reads' HO170.out).2.1); rintro e w12 ⟨v172, rfl, ho0, hb⟩; refine ⟨_, rfl, ?_⟩; have n0_ := Zm (Kd.V_elder' (by (with_reducible repeat (first | apply Kd.V_alloc | apply Kd.V_drewN | apply Kd.V_drew)); exact HO0.out) (by first | exact Kd.N_base ho0 | exact Kd.S_base ho0 | exact Kd.R_base ho0) hb); have n1_ := Zm (Kd.V_elder' (by (with_reducible repeat (first | apply Kd.V_alloc | apply Kd.V_drewN | apply Kd.V_drew)); exact HO1.out) (by first | exact Kd.N_base ho0 | exact Kd.S_base ho0 | exact Kd.R_base ho0) hb); have n2_ := Zm (Kd.V_elder' (by (with_reducible repeat (first | apply Kd.V_alloc | apply Kd.V_drewN | apply Kd.V_drew)); exact HO2.out) (by first | exact Kd.N_base ho0 | exact Kd.S_base ho0 | exact Kd.R_base ho0) hb); have n3_ := Zm (Kd.N_elder' (by (with_reducible repeat (first | apply Kd.N_alloc | apply Kd.N_drewN | apply Kd.N_drew)); exact HO170.out) (by first | exact Kd.N_base ho0 | exact Kd.S_base ho0 | exact Kd.R_base ho0) hb); have n4_ := Zm (Kd.N_lower (Kd.N_mono (ok' := fun k_ => ((P0_ k_ ∨ P1_ k_ ∨ P2_ k_) ∨ w.heap.size ≤ k_) ∧ some k_ ≠ (.slice Ao11 y168.length co11 : Value).ownBlock) (Kd.S_N (Kd.S_bound ho0)) (fun k_ hk_ => ⟨(.inr (Nat.le_trans (below_size (by repeat (first | (with_reducible first | exact HB.out | apply below_alloc | apply Zd | apply below_drew1) | exact HB.out))) hk_.2.1)), (Kd.fresh' (Kd.N_lt (by (with_reducible repeat (first | apply Kd.N_alloc | apply Kd.N_drewN | apply Kd.N_drew)); exact HO170.out)) k_ hk_.2.1)⟩)) (below_size (by repeat (first | (with_reducible first | exact HB.out | apply below_alloc | apply Zd | apply below_drew1) | exact HB.out)))); have n5_ := Zm (below_step (by repeat (first | (with_reducible first | exact HB.out | apply below_alloc | apply Zd | apply below_drew1) | exact HB.out)) hb); clear HO0; clear HO1; clear HO2; clear HO170; clear HB; have HO0 := n0_; have HO1 := n1_; have HO2 := n2_; have HO170 := n3_; have HO173 := n4_; have HB := n5_; clear n0_ n1_ n2_ n3_ n4_ n5_; (try clear hb); (try clear hb2); (try clear hk); (try clear hi); (try clear ho0)))
    have n0_ := Zm (Kd.V_drew HO0.out)
    have n1_ := Zm (Kd.V_drew HO1.out)
    have n2_ := Zm (Kd.V_drew HO2.out)
    have n3_ := Zm (Kd.N_drew HO170.out)
    have n4_ := Zm (Kd.N_drew HO173.out)
    have n5_ := Zm (below_drew1 HB.out)
    clear HO0
    clear HO1
    clear HO2
    clear HO170
    clear HO173
    clear HB
    have HO0 := n0_
    have HO1 := n1_
    have HO2 := n2_
    have HO170 := n3_
    have HO173 := n4_
    have HB := n5_
    clear n0_ n1_ n2_ n3_ n4_ n5_
    obtain ⟨Ao14, co14, eo14⟩ := Kd.N_slice HO173.out
    (first | subst eo14 | (injection eo14 with f1_ f2_ f3_; have f4_ := f1_.symm; have f5_ := f3_.symm; clear f1_ f2_ f3_; subst f4_; subst f5_))
    have p174 : 0 ≤ (0 : Int) := (by omega)
    have q174 : 0 < (t171.length : Int) := Zo (by first | (with_reducible assumption) | assumption)
    obtain ⟨ad174, A174_0, c174_0, e174, hx174_0, hl174_0, hi174_0⟩ := at_L3 (Kd.N_reads' HO173.out).2.2 0 p174 q174
    cases e174
    obtain ⟨ce174, hce174, hMe174, hcc174⟩ := Kd.N_get HO173.out [] 0 p174 (by first | exact q174 | exact Zo (by first | (with_reducible assumption) | assumption) | (have e_ := (Kd.N_reads' HO173.out).1; omega))
    obtain ⟨ua174_0, uc174_0, rfl, ul174_0, ge174_0⟩ := Kd.FK_slice_open hMe174
    have hv174_0 := hcc174 0 _ rfl
    rw [Nat.add_zero, show ((Kd.slice 3 (Kd.int .i64))).sz = 1 from rfl, Nat.mul_one] at hv174_0
    replace hv174_0 := Option.some.inj (hv174_0.symm.trans hx174_0)
    injection hv174_0 with hva_ hvn_ hvc_
    rw [hva_] at ge174_0
    rw [hvc_] at ul174_0
    have HL174_0 := Zm (show Kd.V (Kd.int .i64) 3 _ w.heap.size _ _ (rd_L3 t171 0) from Kd.V_mk ul174_0 ge174_0)
    clear hva_ hvn_ hvc_ ge174_0 ul174_0
    clear hcc174 hce174
    have qi174 : (0 < t171.length) = True := eq_true (by omega)
    (try rw [show ((0 : Int)).toNat = 0 from rfl] at hx174_0)
    (try rw [Addr.add_zero'] at hx174_0)
    have HR174_0 := Zm hi174_0
    have HC174_0 := Zm hl174_0
    clear hi174_0 hl174_0
    replace p174 := eq_true p174
    replace q174 := eq_true q174
    have p175 : 0 ≤ (1 : Int) := (by omega)
    have q175 : 1 < (t171.length : Int) := Zo (by first | (with_reducible assumption) | assumption)
    obtain ⟨ad175, A175_0, c175_0, e175, hx175_0, hl175_0, hi175_0⟩ := at_L3 (Kd.N_reads' HO173.out).2.2 1 p175 q175
    obtain rfl : ad174 = ad175 := (by injection e175)
    obtain ⟨ce175, hce175, hMe175, hcc175⟩ := Kd.N_get HO173.out [] 1 p175 (by first | exact q175 | exact Zo (by first | (with_reducible assumption) | assumption) | (have e_ := (Kd.N_reads' HO173.out).1; omega))
    obtain ⟨ua175_0, uc175_0, rfl, ul175_0, ge175_0⟩ := Kd.FK_slice_open hMe175
    have hv175_0 := hcc175 0 _ rfl
    rw [Nat.add_zero, show ((Kd.slice 3 (Kd.int .i64))).sz = 1 from rfl, Nat.mul_one] at hv175_0
    replace hv175_0 := Option.some.inj (hv175_0.symm.trans hx175_0)
    injection hv175_0 with hva_ hvn_ hvc_
    rw [hva_] at ge175_0
    rw [hvc_] at ul175_0
    have HL175_0 := Zm (show Kd.V (Kd.int .i64) 3 _ w.heap.size _ _ (rd_L3 t171 1) from Kd.V_mk ul175_0 ge175_0)
    clear hva_ hvn_ hvc_ ge175_0 ul175_0
    clear hcc175 hce175
    (try simp only [show (1 : Int).toNat = 1 from rfl, Nat.reduceMul, Nat.reduceEqDiff, Go.Addr.add, ↓reduceIte] at hx175_0)
    have qi175 : (1 < t171.length) = True := eq_true (by omega)
    (try rw [show ((1 : Int)).toNat = 1 from rfl] at hx175_0)
    have HR175_0 := Zm hi175_0
    have HC175_0 := Zm hl175_0
    clear hi175_0 hl175_0
    replace p175 := eq_true p175
    replace q175 := eq_true q175
    have p176 : 0 ≤ (2 : Int) := (by omega)
    have q176 : 2 < (t171.length : Int) := Zo (by first | (with_reducible assumption) | assumption)
    obtain ⟨ad176, A176_0, c176_0, e176, hx176_0, hl176_0, hi176_0⟩ := at_L3 (Kd.N_reads' HO173.out).2.2 2 p176 q176
    obtain rfl : ad174 = ad176 := (by injection e176)
    obtain ⟨ce176, hce176, hMe176, hcc176⟩ := Kd.N_get HO173.out [] 2 p176 (by first | exact q176 | exact Zo (by first | (with_reducible assumption) | assumption) | (have e_ := (Kd.N_reads' HO173.out).1; omega))
    obtain ⟨ua176_0, uc176_0, rfl, ul176_0, ge176_0⟩ := Kd.FK_slice_open hMe176
    have hv176_0 := hcc176 0 _ rfl
    rw [Nat.add_zero, show ((Kd.slice 3 (Kd.int .i64))).sz = 1 from rfl, Nat.mul_one] at hv176_0
    replace hv176_0 := Option.some.inj (hv176_0.symm.trans hx176_0)
    injection hv176_0 with hva_ hvn_ hvc_
    rw [hva_] at ge176_0
    rw [hvc_] at ul176_0
    have HL176_0 := Zm (show Kd.V (Kd.int .i64) 3 _ w.heap.size _ _ (rd_L3 t171 2) from Kd.V_mk ul176_0 ge176_0)
    clear hva_ hvn_ hvc_ ge176_0 ul176_0
    clear hcc176 hce176
    (try simp only [show (2 : Int).toNat = 2 from rfl, Nat.reduceMul, Nat.reduceEqDiff, Go.Addr.add, ↓reduceIte] at hx176_0)
    have qi176 : (2 < t171.length) = True := eq_true (by omega)
    (try rw [show ((2 : Int)).toNat = 2 from rfl] at hx176_0)
    have HR176_0 := Zm hi176_0
    have HC176_0 := Zm hl176_0
    clear hi176_0 hl176_0
    replace p176 := eq_true p176
    replace q176 := eq_true q176
    refine start_ (n := 11) (S := fun w' => w'.cell? ad174 = some (.slice A174_0 (rd_L3 t171 0).length c174_0) ∧ w'.cell? ⟨ad174.block, ad174.off + 1, none⟩ = some (.slice A175_0 (rd_L3 t171 1).length c175_0) ∧ w'.cell? ⟨ad174.block, ad174.off + 2, none⟩ = some (.slice A176_0 (rd_L3 t171 2).length c176_0)) (ds := []) #[false, false, false, false, false, false, false, false, false, false, false] (by kernel_rfl) rfl rfl ⟨hx174_0, hx175_0, hx176_0⟩ (fun hHeld => ?_); refine with_tabW diff3_Parts.tab2 diff3_Parts.bits2 (fun HT_ HW_ => ?_)
    generalize w12.drew = w13 at HO0 HO1 HO2 HO170 HO173 HB HL174_0 HL175_0 HL176_0 HR174_0 HR175_0 HR176_0 hx174_0 hx175_0 hx176_0 hHeld ⊢
    refine pure_ (i := 0) (N := some 13) (v := ?_) (a' := ?_) #[true, false, false, false, false, false, false, false, false, false, false] rfl rfl (any_of HT_.out (by kernel_rfl)) (fun _ _ _ h => h) (Or.inl ⟨by rfl, ?_⟩) ?_ ?_
    rotate_left
    ·intro w'
     go_simp
     with_reducible rfl
    rotate_left
    ·simp only [Act.put, List.setIfInBounds_toArray, List.set_cons_zero, List.set_cons_succ, i64_w, i32_w]
     rfl
    refine pure_ (i := 1) (N := some 14) (v := ?_) (a' := ?_) #[true, true, false, false, false, false, false, false, false, false, false] rfl rfl (any_of HT_.out (by kernel_rfl)) (fun _ _ _ h => h) (Or.inl ⟨by rfl, ?_⟩) ?_ ?_
    rotate_left
    ·intro w'
     go_simp
     with_reducible rfl
    rotate_left
    ·simp only [Act.put, List.setIfInBounds_toArray, List.set_cons_zero, List.set_cons_succ, i64_w, i32_w]
     rfl
    refine pure_ (i := 3) (N := some 16) (v := ?_) (a' := ?_) #[true, true, false, true, false, false, false, false, false, false, false] rfl rfl (any_of HT_.out (by kernel_rfl)) (fun _ _ _ h => h) (Or.inl ⟨by rfl, ?_⟩) ?_ ?_
    rotate_left
    ·intro w'
     go_simp
     with_reducible rfl
    rotate_left
    ·simp only [Act.put, List.setIfInBounds_toArray, List.set_cons_zero, List.set_cons_succ, i64_w, i32_w]
     rfl
    refine pure_ (i := 4) (N := some 17) (v := ?_) (a' := ?_) #[true, true, false, true, true, false, false, false, false, false, false] rfl rfl (any_of HT_.out (by kernel_rfl)) (fun _ _ _ h => h) (Or.inl ⟨by rfl, ?_⟩) ?_ ?_
    rotate_left
    ·intro w'
     go_simp
     with_reducible rfl
    rotate_left
    ·simp only [Act.put, List.setIfInBounds_toArray, List.set_cons_zero, List.set_cons_succ, i64_w, i32_w]
     rfl
    refine pure_ (i := 6) (N := some 19) (v := ?_) (a' := ?_) #[true, true, false, true, true, false, true, false, false, false, false] rfl rfl (any_of HT_.out (by kernel_rfl)) (fun _ _ _ h => h) (Or.inl ⟨by rfl, ?_⟩) ?_ ?_
    rotate_left
    ·intro w'
     go_simp
     with_reducible rfl
    rotate_left
    ·simp only [Act.put, List.setIfInBounds_toArray, List.set_cons_zero, List.set_cons_succ, i64_w, i32_w]
     rfl
    refine pure_ (i := 7) (N := some 20) (v := ?_) (a' := ?_) #[true, true, false, true, true, false, true, true, false, false, false] rfl rfl (any_of HT_.out (by kernel_rfl)) (fun _ _ _ h => h) (Or.inl ⟨by rfl, ?_⟩) ?_ ?_
    rotate_left
    ·intro w'
     go_simp
     with_reducible rfl
    rotate_left
    ·simp only [Act.put, List.setIfInBounds_toArray, List.set_cons_zero, List.set_cons_succ, i64_w, i32_w]
     rfl
    refine take_ (i := 2) (N := some 15) (v := ?_) (a' := ?_) #[true, true, true, true, true, false, true, true, false, false, false] rfl rfl (take_ofW HT_.out HW_.out (by kernel_rfl)) (fun _ _ _ h => h) (Or.inl ⟨by rfl, ?_⟩) hHeld ?_ ?_
    rotate_left
    ·rintro w' ⟨s0, s1, s2⟩
     go_simp
     with_reducible rfl
    rotate_left
    ·simp only [Act.put, List.setIfInBounds_toArray, List.set_cons_zero, List.set_cons_succ, i64_w, i32_w]
     rfl
    refine take_ (i := 5) (N := some 18) (v := ?_) (a' := ?_) #[true, true, true, true, true, true, true, true, false, false, false] rfl rfl (take_ofW HT_.out HW_.out (by kernel_rfl)) (fun _ _ _ h => h) (Or.inl ⟨by rfl, ?_⟩) hHeld ?_ ?_
    rotate_left
    ·rintro w' ⟨s0, s1, s2⟩
     go_simp
     with_reducible rfl
    rotate_left
    ·simp only [Act.put, List.setIfInBounds_toArray, List.set_cons_zero, List.set_cons_succ, i64_w, i32_w]
     rfl
    refine take_ (i := 8) (N := some 21) (v := ?_) (a' := ?_) #[true, true, true, true, true, true, true, true, true, false, false] rfl rfl (take_ofW HT_.out HW_.out (by kernel_rfl)) (fun _ _ _ h => h) (Or.inl ⟨by rfl, ?_⟩) hHeld ?_ ?_
    rotate_left
    ·rintro w' ⟨s0, s1, s2⟩
     go_simp
     with_reducible rfl
    rotate_left
    ·simp only [Act.put, List.setIfInBounds_toArray, List.set_cons_zero, List.set_cons_succ, i64_w, i32_w]
     rfl
    refine one_ (i := 9) (N := some 22) #[true, true, true, true, true, true, true, true, true, true, false] rfl rfl (one_of HT_.out (by kernel_rfl)) (by decide) (fun K hK => ?_)
    refine goes_ Try.func10 (by kernel_rfl) rfl #[.slice A174_0 (rd_L3 t171 0).length c174_0, .slice A175_0 (rd_L3 t171 1).length c175_0, .slice A176_0 (rd_L3 t171 2).length c176_0] (by rfl) rfl rfl (by (try simp only [List.map_toArray, List.map_cons, List.map_nil]); first | done | rfl | (simp only [List.length_drop, List.length_take]; rfl)) ?_
    with_reducible refine (diff3_Chunks.calls k _ _ (rd_L3 t171 0) _ _ (rd_L3 t171 1) _ _ (rd_L3 t171 2) t177 _ ?side1 ?side2 ?side3 ?side4 ?side5 ?side6 A8.out).mono ?_
    (case side1 => repeat (first | exact (by repeat (first | (with_reducible exact HR174_0.out) | (with_reducible refine Kd.C_alloc ?_ _) | (with_reducible refine Kd.C_drewN ?_ _) | (with_reducible refine Kd.C_drew ?_) | exact HR174_0.out)) | (with_reducible refine Kd.C_alloc ?_ _) | (with_reducible refine Kd.C_drewN ?_ _) | (with_reducible refine Kd.C_drew ?_)))
    (case side2 => exact HC174_0.out)
    (case side3 => repeat (first | exact (by repeat (first | (with_reducible exact HR175_0.out) | (with_reducible refine Kd.C_alloc ?_ _) | (with_reducible refine Kd.C_drewN ?_ _) | (with_reducible refine Kd.C_drew ?_) | exact HR175_0.out)) | (with_reducible refine Kd.C_alloc ?_ _) | (with_reducible refine Kd.C_drewN ?_ _) | (with_reducible refine Kd.C_drew ?_)))
    (case side4 => exact HC175_0.out)
    (case side5 => repeat (first | exact (by repeat (first | (with_reducible exact HR176_0.out) | (with_reducible refine Kd.C_alloc ?_ _) | (with_reducible refine Kd.C_drewN ?_ _) | (with_reducible refine Kd.C_drew ?_) | exact HR176_0.out)) | (with_reducible refine Kd.C_alloc ?_ _) | (with_reducible refine Kd.C_drewN ?_ _) | (with_reducible refine Kd.C_drew ?_)))
    (case side6 => exact HC176_0.out)
    rintro e w15 ⟨v178, rfl, ho0, hb⟩
    have HS0_ := (hb.cell (World.block_lt_of_cell? _ _ (hHeld.1))).trans (hHeld.1)
    have HS1_ := (hb.cell (World.block_lt_of_cell? _ _ (hHeld.2.1))).trans (hHeld.2.1)
    have HS2_ := (hb.cell (World.block_lt_of_cell? _ _ (hHeld.2.2))).trans (hHeld.2.2)
    refine ⟨_, rfl, ?_⟩
    have n0_ := Zm (Kd.V_elder' (by (with_reducible repeat (first | apply Kd.V_alloc | apply Kd.V_drewN | apply Kd.V_drew)); exact HO0.out) (Kd.R_base ho0) hb)
    have n1_ := Zm (Kd.V_elder' (by (with_reducible repeat (first | apply Kd.V_alloc | apply Kd.V_drewN | apply Kd.V_drew)); exact HO1.out) (Kd.R_base ho0) hb)
    have n2_ := Zm (Kd.V_elder' (by (with_reducible repeat (first | apply Kd.V_alloc | apply Kd.V_drewN | apply Kd.V_drew)); exact HO2.out) (Kd.R_base ho0) hb)
    have n3_ := Zm (Kd.N_elder' (by (with_reducible repeat (first | apply Kd.N_alloc | apply Kd.N_drewN | apply Kd.N_drew)); exact HO170.out) (Kd.R_base ho0) hb)
    have n4_ := Zm (Kd.N_elder' (by (with_reducible repeat (first | apply Kd.N_alloc | apply Kd.N_drewN | apply Kd.N_drew)); exact HO173.out) (Kd.R_base ho0) hb)
    have n5_ := Zm (Kd.V_elder' (by (with_reducible repeat (first | apply Kd.V_alloc | apply Kd.V_drewN | apply Kd.V_drew)); exact HL174_0.out) (Kd.R_base ho0) hb)
    have n6_ := Zm (Kd.V_elder' (by (with_reducible repeat (first | apply Kd.V_alloc | apply Kd.V_drewN | apply Kd.V_drew)); exact HL175_0.out) (Kd.R_base ho0) hb)
    have n7_ := Zm (Kd.V_elder' (by (with_reducible repeat (first | apply Kd.V_alloc | apply Kd.V_drewN | apply Kd.V_drew)); exact HL176_0.out) (Kd.R_base ho0) hb)
    have n8_ := Zm (Kd.R_lower (Kd.R_newM (M := fun k_ => (w.heap.size ≤ k_)) ho0 (below_size (by repeat (first | (with_reducible first | exact HB.out | apply below_alloc | apply Zd | apply below_drew1) | exact HB.out))) (fun k_ h_ => h_)) (below_size (by repeat (first | (with_reducible first | exact HB.out | apply below_alloc | apply Zd | apply below_drew1) | exact HB.out))))
    have n9_ := Zm (Kd.C_below (by repeat (first | (with_reducible exact HR174_0.out) | (with_reducible refine Kd.C_alloc ?_ _) | (with_reducible refine Kd.C_drewN ?_ _) | (with_reducible refine Kd.C_drew ?_) | exact HR174_0.out)) hb)
    have n10_ := Zm (Kd.C_below (by repeat (first | (with_reducible exact HR175_0.out) | (with_reducible refine Kd.C_alloc ?_ _) | (with_reducible refine Kd.C_drewN ?_ _) | (with_reducible refine Kd.C_drew ?_) | exact HR175_0.out)) hb)
    have n11_ := Zm (Kd.C_below (by repeat (first | (with_reducible exact HR176_0.out) | (with_reducible refine Kd.C_alloc ?_ _) | (with_reducible refine Kd.C_drewN ?_ _) | (with_reducible refine Kd.C_drew ?_) | exact HR176_0.out)) hb)
    have n12_ := Zm (below_step (by repeat (first | (with_reducible first | exact HB.out | apply below_alloc | apply Zd | apply below_drew1) | exact HB.out)) hb)
    clear HO0
    clear HO1
    clear HO2
    clear HO170
    clear HO173
    clear HL174_0
    clear HL175_0
    clear HL176_0
    clear HR174_0
    clear HR175_0
    clear HR176_0
    clear HB
    have HO0 := n0_
    have HO1 := n1_
    have HO2 := n2_
    have HO170 := n3_
    have HO173 := n4_
    have HL174_0 := n5_
    have HL175_0 := n6_
    have HL176_0 := n7_
    have HO179 := n8_
    have HR174_0 := n9_
    have HR175_0 := n10_
    have HR176_0 := n11_
    have HB := n12_
    clear n0_ n1_ n2_ n3_ n4_ n5_ n6_ n7_ n8_ n9_ n10_ n11_ n12_
    (try clear hb)
    (try clear hb2)
    (try clear hk)
    (try clear hi)
    (try clear ho0)
    refine hK.out _ _ ⟨HS0_, HS1_, HS2_⟩ (fun hHeld => ?_)
    clear hK K
    refine norm_ (a' := ?_) ?_ ?_
    rotate_left
    ·show Act.put _ (some 22) _ = _
     simp only [Act.put, List.setIfInBounds_toArray, List.set_cons_zero, List.set_cons_succ, i64_w, i32_w]
     rfl
    refine pure_ (i := 10) (N := some 6) (v := ?_) (a' := ?_) #[true, true, true, true, true, true, true, true, true, true, true] rfl rfl (any_of HT_.out (by kernel_rfl)) (fun _ _ _ h => h) (Or.inl ⟨by rfl, ?_⟩) ?_ ?_
    rotate_left
    ·intro w'
     go_simp
     with_reducible rfl
    rotate_left
    ·simp only [Act.put, List.setIfInBounds_toArray, List.set_cons_zero, List.set_cons_succ, i64_w, i32_w]
     rfl
    refine done_ (done_of HT_.out (by kernel_rfl)) ?_
    try go_wp2
    go_ret
    exact ⟨_, by first | rfl | (simp [errW_none, errW_some] <;> rfl) | (simp [*, errW_none, errW_some] <;> rfl), by (with_reducible repeat (first | apply Kd.R_alloc | apply Kd.R_drewN | apply Kd.R_drew)); exact Kd.R_mono HO179.out (fun _ hk => hk.1), by repeat (first | (with_reducible first | exact HB.out | apply below_alloc | apply Zd | apply below_drew1) | exact HB.out)⟩
   ·rw [if_neg c7] at H
    exact absurd H (by simp)
  ·rw [if_neg c6] at H
   exact absurd H (by simp)
 ·rw [if_neg c5] at H
  exact absurd H (by simp)
/-! ### diff3_merged_string: function 30 -/
-- info9
set_option maxHeartbeats 1000000 in
theorem diff3_merged_string.side1 (ba bc : Nat) (A : Option Addr) (c : Nat) (xs : List ByteArray) (lo hi : Nat) (W : World) (h1 : W.cell? ⟨ba, 0, none⟩ = some (.slice A xs.length c)) (h2 : W.cell? ⟨bc, 3, none⟩ = some (.int .i64 (lo : Int))) (h3 : W.cell? ⟨bc, 4, none⟩ = some (.int .i64 (hi : Int)))
  (hC : Kd.C Kd.string W A xs.length xs) (hc : xs.length ≤ c) (hlh : lo ≤ hi) (hhx : hi ≤ xs.length) :
  Calls Try.prog 42 #[.pointer (some ⟨ba, 0, none⟩), .pointer (some ⟨bc, 0, none⟩)] W fun e w' => w' = W ∧ ∃ A' c', e = .returned (.slice A' ((xs.take hi).drop lo).length c') ∧ Kd.C Kd.string W A' ((xs.take hi).drop lo).length ((xs.take hi).drop lo) := by
 have hhc : hi ≤ c := by omega
 have hM := Kd.C_mid (lo := lo) (hi := hi) hC hlh hhx hc
 obtain ⟨ys, hys⟩ : ∃ ys, (xs.take hi).drop lo = ys := ⟨_, rfl⟩
 have hl : hi - lo = ys.length := by rw [← hys, List.length_drop, List.length_take]; omega
 rw [hys] at hM ⊢
 have HM := Lib.hid hM
 clear hM
 go_enter Try.func42, Try.ntmps42
 go_wp2
 all_goals
  go_ret
  have hM := HM.out
  refine ⟨rfl, _, ⟨_, rfl⟩, ?_⟩
  first
  | (rw [if_neg (by omega)] at hM; simpa [show Kd.string.sz = 1 from rfl] using hM)
  | (rw [if_pos (by omega)] at hM; simpa using hM)
set_option maxHeartbeats 1000000 in
theorem diff3_merged_string.side2 (ba bc : Nat) (A : Option Addr) (c : Nat) (xs : List ByteArray) (lo hi : Nat) (W : World) (h1 : W.cell? ⟨ba, 0, none⟩ = some (.slice A xs.length c)) (h2 : W.cell? ⟨bc, 5, none⟩ = some (.int .i64 (lo : Int))) (h3 : W.cell? ⟨bc, 6, none⟩ = some (.int .i64 (hi : Int)))
  (hC : Kd.C Kd.string W A xs.length xs) (hc : xs.length ≤ c) (hlh : lo ≤ hi) (hhx : hi ≤ xs.length) :
  Calls Try.prog 43 #[.pointer (some ⟨ba, 0, none⟩), .pointer (some ⟨bc, 0, none⟩)] W fun e w' => w' = W ∧ ∃ A' c', e = .returned (.slice A' ((xs.take hi).drop lo).length c') ∧ Kd.C Kd.string W A' ((xs.take hi).drop lo).length ((xs.take hi).drop lo) := by
 have hhc : hi ≤ c := by omega
 have hM := Kd.C_mid (lo := lo) (hi := hi) hC hlh hhx hc
 obtain ⟨ys, hys⟩ : ∃ ys, (xs.take hi).drop lo = ys := ⟨_, rfl⟩
 have hl : hi - lo = ys.length := by rw [← hys, List.length_drop, List.length_take]; omega
 rw [hys] at hM ⊢
 have HM := Lib.hid hM
 clear hM
 go_enter Try.func43, Try.ntmps43
 go_wp2
 all_goals
  go_ret
  have hM := HM.out
  refine ⟨rfl, _, ⟨_, rfl⟩, ?_⟩
  first
  | (rw [if_neg (by omega)] at hM; simpa [show Kd.string.sz = 1 from rfl] using hM)
  | (rw [if_pos (by omega)] at hM; simpa using hM)
def diff3_merged_string.piece (x : S41) (a b : List ByteArray) : Option (List ByteArray) :=
 if x.f0 = 2 then (if 0 ≤ x.f3.f0 ∧ x.f3.f0 ≤ x.f3.f1 ∧ x.f3.f1 ≤ b.length then some ((b.take x.f3.f1.toNat).drop x.f3.f0.toNat) else none)
 else (if 0 ≤ x.f2.f0 ∧ x.f2.f0 ≤ x.f2.f1 ∧ x.f2.f1 ≤ a.length then some ((a.take x.f2.f1.toNat).drop x.f2.f0.toNat) else none)
def diff3_merged_string.go (a b : List ByteArray) : List S41 → List ByteArray → Option (List ByteArray)
 | [], acc => some acc
 | x :: l, acc => (diff3_merged_string.piece x a b).bind fun p => if acc.length + p.length < 8796093022208 then diff3_merged_string.go a b l (acc ++ p) else none
def diff3_merged_string.f (l : List S41) (a b : List ByteArray) : Option (List ByteArray × Bool) :=
 (diff3_Clean.f l).bind fun c => if c = true then (diff3_merged_string.go a b l []).bind fun r => some (r, true) else some ([], false)
set_option maxHeartbeats 4000000 in
set_option maxRecDepth 100000 in
theorem diff3_merged_string.calls (A0 : Option Addr) (c0 : Nat) (l0 : List S41) (A1 : Option Addr) (c1 : Nat) (l1 : List ByteArray) (A2 : Option Addr) (c2 : Nat) (l2 : List ByteArray) (r1 : List ByteArray) (r2 : Bool) (w : World) (hr0 : Kd.C k41 w A0 l0.length l0) (hc0 : l0.length ≤ c0) (hr1 : Kd.C Kd.string w A1 l1.length l1) (hc1 : l1.length ≤ c1) (hr2 : Kd.C Kd.string w A2 l2.length l2) (hc2 : l2.length ≤ c2) (h : diff3_merged_string.f l0 l1 l2 = some (r1, r2)) :
  Calls Try.prog 30 #[.slice A0 l0.length c0, .slice A1 l1.length c1, .slice A2 l2.length c2] w fun e w' => ∃ v0_ : Value, e = .returned (.tuple #[v0_, .bool r2]) ∧ Kd.R Kd.string 9 w' w.heap.size (fun _ => True) v0_ r1 ∧ Below w.heap.size w w' := by
 unfold diff3_merged_string.f at h
 obtain ⟨b, hb, h⟩ := Option.bind_eq_some_iff.1 h
 have hlen := hr0.2.1
 go_enter Try.func30, Try.ntmps30
 have bA := Boxed.new w 32 (.slice A1 l1.length c1)
 have bB := Boxed.new (w.alloc (.cells #[.slice A1 l1.length c1] 32)) 32 (.slice A2 l2.length c2)
 have bA := bA.alloc (.cells #[.slice A2 l2.length c2] 32)
 rw [World.size_alloc] at bB
 have hB0 : Below w.heap.size w ((w.alloc (.cells #[.slice A1 l1.length c1] 32)).alloc (.cells #[.slice A2 l2.length c2] 32)) := ((Below.refl _ w).alloc (Nat.le_refl _) _).alloc (by simp) _
 obtain ⟨w2, hw2⟩ : ∃ x, (w.alloc (.cells #[.slice A1 l1.length c1] 32)).alloc (.cells #[.slice A2 l2.length c2] 32) = x := ⟨_, rfl⟩
 rw [hw2] at bA bB hB0
 cases b with
 | false =>
  rw [if_neg (by decide)] at h
  cases h
  go_wp2_with (go_at_call 15; refine (diff3_Clean.calls A0 c0 l0 false _ (Kd.C_below hr0 hB0) hc0 hb).mono ?_; rintro e w' ⟨rfl, hb'⟩)
  refine bodyPost_ret (results_tmp2 rfl _ _ _) rfl ?_
  exact ⟨_, rfl, Kd.R_nil _ _ _ _ _, hB0.trans (hb'.mono hB0.size)⟩
 | true =>
  rw [if_pos rfl] at h
  obtain ⟨r, hr, h⟩ := Option.bind_eq_some_iff.1 h
  cases h
  go_wp2_with (go_at_call 15; refine (diff3_Clean.calls A0 c0 l0 true _ (Kd.C_below hr0 hB0) hc0 hb).mono ?_; rintro e w' ⟨rfl, hb'⟩)
  clear hw2
  have cA : Boxed w' w.heap.size 32 (.slice A1 l1.length c1) := (hb'.block _ bA.lt).trans bA
  have cB : Boxed w' (w.heap.size + 1) 32 (.slice A2 l2.length c2) := (hb'.block _ bB.lt).trans bB
  have hB1 := hB0.trans (hb'.mono hB0.size)
  clear bA bB hb'
  go_loopw [8, 17] (fun vo p wr => ∃ (i : Nat) (acc : List ByteArray), p = .int .i64 (i : Int) ∧ i ≤ l0.length ∧ diff3_merged_string.go l1 l2 (l0.drop i) acc = some r1 ∧ Kd.R Kd.string 9 wr w.heap.size (fun _ => True) vo acc ∧ Boxed wr w.heap.size 32 (.slice A1 l1.length c1) ∧ Boxed wr (w.heap.size + 1) 32 (.slice A2 l2.length c2) ∧ Below w.heap.size w wr) (fun _ p _ => l0.length - (Lib.intOf p).toNat)
  case atStart => exact ⟨0, [], rfl, Nat.zero_le _, hr, Kd.R_nil _ _ _ _ _, cA, cB, hB1⟩
  case round =>
   clear cA cB hB1
   obtain ⟨i, acc, rfl, hi, hgo, HO, cA, cB, hB⟩ := hrel
   by_cases hlt : i < l0.length
   ·obtain ⟨ad, e, h0, h1, h2, h3, h4, h5, h6⟩ := at_T41 (Kd.C_below hr0 hB) (i : Int) (by omega) (by omega)
    cases e
    simp only [Int.toNat_natCast] at h0 h1 h2 h3 h4 h5 h6
    obtain ⟨x, hx1⟩ : ∃ x, rd_T41 l0 (i : Int) = x := ⟨_, rfl⟩
    rw [hx1] at h0 h1 h2 h3 h4 h5 h6
    have hd : l0.drop i = x :: l0.drop (i + 1) := by
     rw [List.drop_eq_getElem_cons hlt, ← hx1]
     show _ = l0.getD i z41 :: _
     rw [List.getD_eq_getElem?_getD, List.getElem?_eq_getElem hlt]; rfl
    rw [hd, diff3_merged_string.go] at hgo
    obtain ⟨p, hp, hgo⟩ := Option.bind_eq_some_iff.1 hgo
    split at hgo
    case isFalse => cases hgo
    rename_i hlim
    have HG := Lib.hid hgo
    clear hgo hd hx1 hr
    unfold diff3_merged_string.piece at hp
    by_cases hk : x.f0 = 2
    ·rw [if_pos hk] at hp
     split at hp
     case isFalse => cases hp
     rename_i hbd
     obtain ⟨q1, q2, q3⟩ := hbd
     obtain ⟨lo, hlo⟩ : ∃ lo : Nat, x.f3.f0 = (lo : Int) := ⟨x.f3.f0.toNat, by omega⟩
     obtain ⟨hi', hhi⟩ : ∃ hi : Nat, x.f3.f1 = (hi : Int) := ⟨x.f3.f1.toNat, by omega⟩
     rw [hlo, hhi] at hp q2
     rw [hhi] at q3
     simp only [Int.toNat_natCast] at hp
     have hp' := Option.some.inj hp
     clear hp q1
     have hC2 : Kd.C Kd.string wr A2 l2.length l2 := Kd.C_below hr2 hB
     go_wp2_with (fail)
     refine (diff3_merged_string.side2 (w.heap.size + 1) wr.heap.size A2 c2 l2 lo hi' _ ?c1 ?c2 ?c3 (Kd.C_alloc hC2 _) hc2 (by omega) (by omega)).mono ?_
     case c1 => exact (cB.alloc _).cell
     case c2 => unfold World.cell?; rw [World.alloc_heap_new]; rfl
     case c3 => unfold World.cell?; rw [World.alloc_heap_new]; rfl
     rintro e w' ⟨rfl, A', c', rfl, hC'⟩
     rw [hp'] at hC' ⊢
     obtain ⟨W, hW⟩ : ∃ W, wr.alloc (Obj.cells #[.int .i64 2, .int .i64 x.f1.f0, .int .i64 x.f1.f1, .int .i64 x.f2.f0, .int .i64 x.f2.f1, .int .i64 (lo : Int), .int .i64 (hi' : Int)] 41) = W := ⟨_, rfl⟩
     have HOW : Kd.R Kd.string 9 W w.heap.size (fun _ => True) u8 acc := by rw [← hW]; exact Kd.R_alloc HO _
     have cAW : Boxed W w.heap.size 32 (.slice A1 l1.length c1) := by rw [← hW]; exact cA.alloc _
     have cBW : Boxed W (w.heap.size + 1) 32 (.slice A2 l2.length c2) := by rw [← hW]; exact cB.alloc _
     have hBW : Below w.heap.size w W := by rw [← hW]; exact hB.alloc hB.size _
     rw [hW] at hC' ⊢
     clear hW
     go_wp2_with ((with_reducible refine gate_builtin (b := .append) (xs := #[.tmp 27, .tmp 29]) rfl ?_); at_builtin; refine Kd.R_append_rows Kd.string (w0 := w) w.heap.size rfl (.tmp 27) (.tmp 29) 32 9 (.string ⟨#[]⟩) 16 rfl Try.underlying32 info9 rfl (by decide) (by omega) u8 acc p _ _ _ (fun _ => True) (fun _ => False) rfl rfl HOW hC' (fun _ _ h => h) (fun _ h => h.elim) (fun _ _ => trivial) hBW hBW.size (by omega) ?_; refine Hid.out ?_)
     refine Lib.hid ?_
     intro v1 w1 HO1 hB1 hg1 hat1
     have cA1 := cAW.kept hg1 (Kd.R_ne HOW cAW (by decide))
     have cB1 := cBW.kept hg1 (Kd.R_ne HOW cBW (by decide))
     go_wp2
     exact ⟨⟨i + 1, acc ++ p, by simp, by omega, HG.out, HO1, cA1, cB1, hB1⟩, by simp [Lib.intOf]; omega⟩
    ·rw [if_neg hk] at hp
     split at hp
     case isFalse => cases hp
     rename_i hbd
     obtain ⟨q1, q2, q3⟩ := hbd
     obtain ⟨lo, hlo⟩ : ∃ lo : Nat, x.f2.f0 = (lo : Int) := ⟨x.f2.f0.toNat, by omega⟩
     obtain ⟨hi', hhi⟩ : ∃ hi : Nat, x.f2.f1 = (hi : Int) := ⟨x.f2.f1.toNat, by omega⟩
     rw [hlo, hhi] at hp q2
     rw [hhi] at q3
     simp only [Int.toNat_natCast] at hp
     have hp' := Option.some.inj hp
     clear hp q1
     have hC2 : Kd.C Kd.string wr A1 l1.length l1 := Kd.C_below hr1 hB
     go_wp2_with (fail)
     refine (diff3_merged_string.side1 (w.heap.size) wr.heap.size A1 c1 l1 lo hi' _ ?c1 ?c2 ?c3 (Kd.C_alloc hC2 _) hc1 (by omega) (by omega)).mono ?_
     case c1 => exact (cA.alloc _).cell
     case c2 => unfold World.cell?; rw [World.alloc_heap_new]; rfl
     case c3 => unfold World.cell?; rw [World.alloc_heap_new]; rfl
     rintro e w' ⟨rfl, A', c', rfl, hC'⟩
     rw [hp'] at hC' ⊢
     obtain ⟨W, hW⟩ : ∃ W, wr.alloc (Obj.cells #[.int .i64 x.f0, .int .i64 x.f1.f0, .int .i64 x.f1.f1, .int .i64 (lo : Int), .int .i64 (hi' : Int), .int .i64 x.f3.f0, .int .i64 x.f3.f1] 41) = W := ⟨_, rfl⟩
     have HOW : Kd.R Kd.string 9 W w.heap.size (fun _ => True) u8 acc := by rw [← hW]; exact Kd.R_alloc HO _
     have cAW : Boxed W w.heap.size 32 (.slice A1 l1.length c1) := by rw [← hW]; exact cA.alloc _
     have cBW : Boxed W (w.heap.size + 1) 32 (.slice A2 l2.length c2) := by rw [← hW]; exact cB.alloc _
     have hBW : Below w.heap.size w W := by rw [← hW]; exact hB.alloc hB.size _
     rw [hW] at hC' ⊢
     clear hW
     go_wp2_with ((with_reducible refine gate_builtin (b := .append) (xs := #[.tmp 27, .tmp 29]) rfl ?_); at_builtin; refine Kd.R_append_rows Kd.string (w0 := w) w.heap.size rfl (.tmp 27) (.tmp 29) 32 9 (.string ⟨#[]⟩) 16 rfl Try.underlying32 info9 rfl (by decide) (by omega) u8 acc p _ _ _ (fun _ => True) (fun _ => False) rfl rfl HOW hC' (fun _ _ h => h) (fun _ h => h.elim) (fun _ _ => trivial) hBW hBW.size (by omega) ?_; refine Hid.out ?_)
     refine Lib.hid ?_
     intro v1 w1 HO1 hB1 hg1 hat1
     have cA1 := cAW.kept hg1 (Kd.R_ne HOW cAW (by decide))
     have cB1 := cBW.kept hg1 (Kd.R_ne HOW cBW (by decide))
     go_wp2
     exact ⟨⟨i + 1, acc ++ p, by simp, by omega, HG.out, HO1, cA1, cB1, hB1⟩, by simp [Lib.intOf]; omega⟩
   ·obtain rfl : i = l0.length := by omega
    rw [List.drop_eq_nil_of_le (Nat.le_refl _), diff3_merged_string.go] at hgo
    cases hgo
    go_wp2
    refine bodyPost_ret (results_tmp2 rfl _ _ _) rfl ?_
    exact ⟨_, rfl, HO, hB⟩
/-! ### diff3_Texts: function 18 -/
def diff3_Texts.f (k : Nat) (l0 : List ByteArray) (l1 : List ByteArray) (l2 : List ByteArray) : Option (List ByteArray × Bool) := (diff3_Parts.f k l0 l1 l2).bind fun t180 => ((diff3_merged_string.f t180 l1 l2).bind fun bt183 => (some (bt183.1, bt183.2)))
theorem diff3_Texts.mono : ∀ a0 a1 a2 k, LeO (diff3_Texts.f k a0 a1 a2) (diff3_Texts.f (k + 1) a0 a1 a2) := by
 intro a0 a1 a2 k
 unfold diff3_Texts.f
 repeat' first
   | (with_reducible exact diff3_Parts.mono _ _ _ _)
   | (with_reducible exact LeO.refl _)
   | (with_reducible exact LeO.none _)
   | (with_reducible refine LeO.ite ?_ ?_)
   | (with_reducible refine LeO.bind ?_ (fun _ => ?_))
   | exact diff3_Parts.mono _ _ _ _
   | exact LeO.none _
   | refine LeO.ite ?_ ?_
   | refine LeO.bind ?_ (fun _ => ?_)
set_option maxHeartbeats 8000000 in
set_option maxRecDepth 100000 in
theorem diff3_Texts.calls (k : Nat) (A0 : Option Addr) (c0 : Nat) (l0 : List ByteArray) (A1 : Option Addr) (c1 : Nat) (l1 : List ByteArray) (A2 : Option Addr) (c2 : Nat) (l2 : List ByteArray) (r1 : List ByteArray) (r2 : Bool) (w : World) (hr0 : Kd.C Kd.string w A0 l0.length l0) (hc0 : l0.length ≤ c0) (hr1 : Kd.C Kd.string w A1 l1.length l1) (hc1 : l1.length ≤ c1) (hr2 : Kd.C Kd.string w A2 l2.length l2) (hc2 : l2.length ≤ c2) (h : diff3_Texts.f k l0 l1 l2 = some (r1, r2)) :
  Calls Try.prog 18 #[.slice A0 l0.length c0, .slice A1 l1.length c1, .slice A2 l2.length c2] w fun e w' => ∃ v0_ : Value, e = .returned (.tuple #[v0_, .bool r2]) ∧ Kd.R Kd.string 9 w' w.heap.size (fun _ => True) v0_ r1 ∧ Below w.heap.size w w' := by
 have HR0 := Zm hr0
 have HC0 := Zm hc0
 clear hr0 hc0
 have HR1 := Zm hr1
 have HC1 := Zm hc1
 clear hr1 hc1
 have HR2 := Zm hr2
 have HC2 := Zm hc2
 clear hr2 hc2
 have HB := Zm (Below.refl w.heap.size w)
 have H : ((diff3_Parts.f k l0 l1 l2).bind fun t180 => ((diff3_merged_string.f t180 l1 l2).bind fun bt183 => (some (bt183.1, bt183.2)))) = some (r1, r2) := h
 clear h
 replace H := Option.bind_eq_some_iff.mp H
 obtain ⟨t180, A40, H⟩ := H
 replace H : ((diff3_merged_string.f t180 l1 l2).bind fun bt183 => (some (bt183.1, bt183.2))) = some (r1, r2) := H
 have A4 := Zm A40
 clear A40
 replace H := Option.bind_eq_some_iff.mp H
 obtain ⟨⟨t183, t184⟩, A50, H⟩ := H
 replace H : (some (t183, t184)) = some (r1, r2) := H
 have A5 := Zm A50
 clear A50
 simp only [Option.some.injEq, Prod.mk.injEq] at H
 obtain ⟨rfl, rfl⟩ := H
 go_enter Try.func18, Try.ntmps18
 go_wp2_with (first | ((with_reducible refine gate_callee (f := 20) rfl ?_); refine goesL_ (some 11) rfl rfl Try.func20 (by kernel_rfl) rfl #[.slice A0 l0.length c0, .slice A1 l1.length c1, .slice A2 l2.length c2] rfl (by (try simp only [List.map_toArray, List.map_cons, List.map_nil]); first | done | rfl | (simp only [List.length_drop, List.length_take]; rfl)) ?_; (with_reducible refine (diff3_Parts.calls k (fun k_ => k_ < w.heap.size) _ _ l0 (fun k_ => k_ < w.heap.size) _ _ l1 (fun k_ => k_ < w.heap.size) _ _ l2 t180 _ ?side1 ?side2 ?side3 A4.out).mono ?_); (case side1 => exact Kd.V_mk HC0.out (Kd.F_below (Kd.C_F Kd.heap_string HR0.out) (by repeat (first | (with_reducible first | exact HB.out | apply below_alloc | apply Zd | apply below_drew1) | exact HB.out)))); (case side2 => exact Kd.V_mk HC1.out (Kd.F_below (Kd.C_F Kd.heap_string HR1.out) (by repeat (first | (with_reducible first | exact HB.out | apply below_alloc | apply Zd | apply below_drew1) | exact HB.out)))); (case side3 => exact Kd.V_mk HC2.out (Kd.F_below (Kd.C_F Kd.heap_string HR2.out) (by repeat (first | (with_reducible first | exact HB.out | apply below_alloc | apply Zd | apply below_drew1) | exact HB.out)))); rintro e w6 ⟨v181, rfl, ho0, hb⟩; refine ⟨_, rfl, ?_⟩; have n0_ := Zm (Kd.R_lower (Kd.R_mono (ok' := fun k_ => True) ho0 (fun _ hk_ => trivial)) (below_size (by repeat (first | (with_reducible first | exact HB.out | apply below_alloc | apply Zd | apply below_drew1) | exact HB.out)))); have n1_ := Zm (below_step (by repeat (first | (with_reducible first | exact HB.out | apply below_alloc | apply Zd | apply below_drew1) | exact HB.out)) hb); clear HB; have HO182 := n0_; have HB := n1_; clear n0_ n1_; (try clear hb); (try clear hb2); (try clear hk); (try clear hi); (try clear ho0); obtain ⟨Ao7, co7, eo7⟩ := Kd.R_slice HO182.out; subst eo7) | ((with_reducible refine gate_callee (f := 30) rfl ?_); refine goesL_ (some 14) rfl rfl Try.func30 (by kernel_rfl) rfl #[.slice Ao7 t180.length co7, .slice A1 l1.length c1, .slice A2 l2.length c2] rfl (by (try simp only [List.map_toArray, List.map_cons, List.map_nil]); first | done | rfl | (simp only [List.length_drop, List.length_take]; rfl)) ?_; (with_reducible refine (diff3_merged_string.calls _ _ t180 _ _ l1 _ _ l2 t183 t184 _ ?side1 ?side2 ?side3 ?side4 ?side5 ?side6 A5.out).mono ?_); (case side1 => repeat (first | exact (Kd.R_reads' HO182.out).2.2 | (with_reducible refine Kd.C_alloc ?_ _) | (with_reducible refine Kd.C_drewN ?_ _) | (with_reducible refine Kd.C_drew ?_))); (case side2 => exact (Kd.R_reads' HO182.out).2.1); (case side3 => repeat (first | exact (Kd.C_below HR1.out HB.out) | (with_reducible refine Kd.C_alloc ?_ _) | (with_reducible refine Kd.C_drewN ?_ _) | (with_reducible refine Kd.C_drew ?_))); (case side4 => exact HC1.out); (case side5 => repeat (first | exact (Kd.C_below HR2.out HB.out) | (with_reducible refine Kd.C_alloc ?_ _) | (with_reducible refine Kd.C_drewN ?_ _) | (with_reducible refine Kd.C_drew ?_))); (case side6 => exact HC2.out); rintro e w8 ⟨v185, rfl, ho0, hb⟩; refine ⟨_, rfl, ?_⟩; have n0_ := Zm (Kd.R_below (by (with_reducible repeat (first | apply Kd.R_alloc | apply Kd.R_drewN | apply Kd.R_drew)); exact HO182.out) hb); have n1_ := Zm (Kd.R_lower ho0 (below_size (by repeat (first | (with_reducible first | exact HB.out | apply below_alloc | apply Zd | apply below_drew1) | exact HB.out)))); have n2_ := Zm (below_step (by repeat (first | (with_reducible first | exact HB.out | apply below_alloc | apply Zd | apply below_drew1) | exact HB.out)) hb); clear HO182; clear HB; have HO182 := n0_; have HO186 := n1_; have HB := n2_; clear n0_ n1_ n2_; (try clear hb); (try clear hb2); (try clear hk); (try clear hi); (try clear ho0)))
 go_ret2
 exact ⟨_, by first | rfl | (simp [errW_none, errW_some] <;> rfl) | (simp [*, errW_none, errW_some] <;> rfl), by (with_reducible repeat (first | apply Kd.R_alloc | apply Kd.R_drewN | apply Kd.R_drew)); exact HO186.out, by repeat (first | (with_reducible first | exact HB.out | apply below_alloc | apply Zd | apply below_drew1) | exact HB.out)⟩
/-! ### l07_awake: function 8 -/
def l07_awake.f (k : Nat)  : Option (Bool) := (some (([1, 2, 3] : List Int) : List Int)).bind fun y187 => ((some (([1, 4, 3] : List Int) : List Int)).bind fun y190 => ((some (([1, 2, 3, 5] : List Int) : List Int)).bind fun y193 => ((diff3_Chunks.f k y187 y190 y193).bind fun t196 => ((diff3_Merge.f k y187 y190 y193).bind fun bt199 => ((diff3_Texts.f k (([(⟨#[97]⟩ : ByteArray)] : List ByteArray)) (([(⟨#[98]⟩ : ByteArray)] : List ByteArray)) (([(⟨#[97]⟩ : ByteArray)] : List ByteArray))).bind fun bt212 => (if (t196.length : Int) = 4 then (if 1 < (t196.length : Int) then (if ((rd_T41 t196 1).f0) = 1 then (if 3 < (t196.length : Int) then (if ((rd_T41 t196 3).f0) = 2 then ((diff3_Clean.f t196).bind fun t218 => (if t218 = true then (if bt199.2 = true then ((r05_Same.f k bt199.1 (([1, 4, 3, 5] : List Int))).bind fun t222 => (if t222 = true then (if bt212.2 = true then (if (bt212.1.length : Int) = 1 then (if 0 < (bt212.1.length : Int) then (if (rdOf ByteArray.empty bt212.1 0).toList = ([98] : List UInt8) then ((diff3_Parts.f k (([(⟨#[97]⟩ : ByteArray)] : List ByteArray)) ([] : List ByteArray) ([] : List ByteArray)).bind fun t227 => (some ((t227.length : Int) == 1))) else (none)) else (none)) else (none)) else (none)) else (none))) else (none)) else (none))) else (none)) else (none)) else (none)) else (none)) else (none)))))))
theorem l07_awake.mono : ∀ k, LeO (l07_awake.f k ) (l07_awake.f (k + 1) ) := by
 intro  k
 unfold l07_awake.f
 repeat' first
   | (with_reducible exact r05_Same.mono _ _ _)
   | (with_reducible exact diff3_Chunks.mono _ _ _ _)
   | (with_reducible exact diff3_Merge.mono _ _ _ _)
   | (with_reducible exact diff3_Parts.mono _ _ _ _)
   | (with_reducible exact diff3_Texts.mono _ _ _ _)
   | (with_reducible exact LeO.refl _)
   | (with_reducible exact LeO.none _)
   | (with_reducible refine LeO.ite ?_ ?_)
   | (with_reducible refine LeO.bind ?_ (fun _ => ?_))
   | exact r05_Same.mono _ _ _
   | exact diff3_Chunks.mono _ _ _ _
   | exact diff3_Merge.mono _ _ _ _
   | exact diff3_Parts.mono _ _ _ _
   | exact diff3_Texts.mono _ _ _ _
   | exact LeO.none _
   | refine LeO.ite ?_ ?_
   | refine LeO.bind ?_ (fun _ => ?_)
set_option maxHeartbeats 8000000 in
set_option maxRecDepth 100000 in
theorem l07_awake.calls (k : Nat)  (r : Bool) (w : World) (h : l07_awake.f k  = some r) :
  Calls Try.prog 8 #[] w fun e w' => e = .returned (.bool r) ∧ Below w.heap.size w w' := by
 have HB := Zm (Below.refl w.heap.size w)
 have H : ((some (([1, 2, 3] : List Int) : List Int)).bind fun y187 => ((some (([1, 4, 3] : List Int) : List Int)).bind fun y190 => ((some (([1, 2, 3, 5] : List Int) : List Int)).bind fun y193 => ((diff3_Chunks.f k y187 y190 y193).bind fun t196 => ((diff3_Merge.f k y187 y190 y193).bind fun bt199 => ((diff3_Texts.f k (([(⟨#[97]⟩ : ByteArray)] : List ByteArray)) (([(⟨#[98]⟩ : ByteArray)] : List ByteArray)) (([(⟨#[97]⟩ : ByteArray)] : List ByteArray))).bind fun bt212 => (if (t196.length : Int) = 4 then (if 1 < (t196.length : Int) then (if ((rd_T41 t196 1).f0) = 1 then (if 3 < (t196.length : Int) then (if ((rd_T41 t196 3).f0) = 2 then ((diff3_Clean.f t196).bind fun t218 => (if t218 = true then (if bt199.2 = true then ((r05_Same.f k bt199.1 (([1, 4, 3, 5] : List Int))).bind fun t222 => (if t222 = true then (if bt212.2 = true then (if (bt212.1.length : Int) = 1 then (if 0 < (bt212.1.length : Int) then (if (rdOf ByteArray.empty bt212.1 0).toList = ([98] : List UInt8) then ((diff3_Parts.f k (([(⟨#[97]⟩ : ByteArray)] : List ByteArray)) ([] : List ByteArray) ([] : List ByteArray)).bind fun t227 => (some ((t227.length : Int) == 1))) else (none)) else (none)) else (none)) else (none)) else (none))) else (none)) else (none))) else (none)) else (none)) else (none)) else (none)) else (none)))))))) = some r := h
 clear h
 obtain ⟨y187, hy187⟩ : ∃ y_ : List Int, y_ = (([1, 2, 3] : List Int)) := ⟨_, rfl⟩
 replace H : ((some (([1, 4, 3] : List Int) : List Int)).bind fun y190 => ((some (([1, 2, 3, 5] : List Int) : List Int)).bind fun y193 => ((diff3_Chunks.f k y187 y190 y193).bind fun t196 => ((diff3_Merge.f k y187 y190 y193).bind fun bt199 => ((diff3_Texts.f k (([(⟨#[97]⟩ : ByteArray)] : List ByteArray)) (([(⟨#[98]⟩ : ByteArray)] : List ByteArray)) (([(⟨#[97]⟩ : ByteArray)] : List ByteArray))).bind fun bt212 => (if (t196.length : Int) = 4 then (if 1 < (t196.length : Int) then (if ((rd_T41 t196 1).f0) = 1 then (if 3 < (t196.length : Int) then (if ((rd_T41 t196 3).f0) = 2 then ((diff3_Clean.f t196).bind fun t218 => (if t218 = true then (if bt199.2 = true then ((r05_Same.f k bt199.1 (([1, 4, 3, 5] : List Int))).bind fun t222 => (if t222 = true then (if bt212.2 = true then (if (bt212.1.length : Int) = 1 then (if 0 < (bt212.1.length : Int) then (if (rdOf ByteArray.empty bt212.1 0).toList = ([98] : List UInt8) then ((diff3_Parts.f k (([(⟨#[97]⟩ : ByteArray)] : List ByteArray)) ([] : List ByteArray) ([] : List ByteArray)).bind fun t227 => (some ((t227.length : Int) == 1))) else (none)) else (none)) else (none)) else (none)) else (none))) else (none)) else (none))) else (none)) else (none)) else (none)) else (none)) else (none))))))) = some r := by first | (rw [hy187]; with_reducible exact H) | (have H2_ := (Option.bind_some _ _).symm.trans H; rw [hy187]; with_reducible exact H2_) | (have H2_ := (Option.bind_some _ _).symm.trans H; with_reducible exact H2_) | with_reducible exact H | (rw [hy187]; exact H) | exact H
 have Ny187 := Zm hy187
 clear hy187
 obtain ⟨y190, hy190⟩ : ∃ y_ : List Int, y_ = (([1, 4, 3] : List Int)) := ⟨_, rfl⟩
 replace H : ((some (([1, 2, 3, 5] : List Int) : List Int)).bind fun y193 => ((diff3_Chunks.f k y187 y190 y193).bind fun t196 => ((diff3_Merge.f k y187 y190 y193).bind fun bt199 => ((diff3_Texts.f k (([(⟨#[97]⟩ : ByteArray)] : List ByteArray)) (([(⟨#[98]⟩ : ByteArray)] : List ByteArray)) (([(⟨#[97]⟩ : ByteArray)] : List ByteArray))).bind fun bt212 => (if (t196.length : Int) = 4 then (if 1 < (t196.length : Int) then (if ((rd_T41 t196 1).f0) = 1 then (if 3 < (t196.length : Int) then (if ((rd_T41 t196 3).f0) = 2 then ((diff3_Clean.f t196).bind fun t218 => (if t218 = true then (if bt199.2 = true then ((r05_Same.f k bt199.1 (([1, 4, 3, 5] : List Int))).bind fun t222 => (if t222 = true then (if bt212.2 = true then (if (bt212.1.length : Int) = 1 then (if 0 < (bt212.1.length : Int) then (if (rdOf ByteArray.empty bt212.1 0).toList = ([98] : List UInt8) then ((diff3_Parts.f k (([(⟨#[97]⟩ : ByteArray)] : List ByteArray)) ([] : List ByteArray) ([] : List ByteArray)).bind fun t227 => (some ((t227.length : Int) == 1))) else (none)) else (none)) else (none)) else (none)) else (none))) else (none)) else (none))) else (none)) else (none)) else (none)) else (none)) else (none)))))) = some r := by first | (rw [hy190]; with_reducible exact H) | (have H2_ := (Option.bind_some _ _).symm.trans H; rw [hy190]; with_reducible exact H2_) | (have H2_ := (Option.bind_some _ _).symm.trans H; with_reducible exact H2_) | with_reducible exact H | (rw [hy190]; exact H) | exact H
 have Ny190 := Zm hy190
 clear hy190
 obtain ⟨y193, hy193⟩ : ∃ y_ : List Int, y_ = (([1, 2, 3, 5] : List Int)) := ⟨_, rfl⟩
 replace H : ((diff3_Chunks.f k y187 y190 y193).bind fun t196 => ((diff3_Merge.f k y187 y190 y193).bind fun bt199 => ((diff3_Texts.f k (([(⟨#[97]⟩ : ByteArray)] : List ByteArray)) (([(⟨#[98]⟩ : ByteArray)] : List ByteArray)) (([(⟨#[97]⟩ : ByteArray)] : List ByteArray))).bind fun bt212 => (if (t196.length : Int) = 4 then (if 1 < (t196.length : Int) then (if ((rd_T41 t196 1).f0) = 1 then (if 3 < (t196.length : Int) then (if ((rd_T41 t196 3).f0) = 2 then ((diff3_Clean.f t196).bind fun t218 => (if t218 = true then (if bt199.2 = true then ((r05_Same.f k bt199.1 (([1, 4, 3, 5] : List Int))).bind fun t222 => (if t222 = true then (if bt212.2 = true then (if (bt212.1.length : Int) = 1 then (if 0 < (bt212.1.length : Int) then (if (rdOf ByteArray.empty bt212.1 0).toList = ([98] : List UInt8) then ((diff3_Parts.f k (([(⟨#[97]⟩ : ByteArray)] : List ByteArray)) ([] : List ByteArray) ([] : List ByteArray)).bind fun t227 => (some ((t227.length : Int) == 1))) else (none)) else (none)) else (none)) else (none)) else (none))) else (none)) else (none))) else (none)) else (none)) else (none)) else (none)) else (none))))) = some r := by first | (rw [hy193]; with_reducible exact H) | (have H2_ := (Option.bind_some _ _).symm.trans H; rw [hy193]; with_reducible exact H2_) | (have H2_ := (Option.bind_some _ _).symm.trans H; with_reducible exact H2_) | with_reducible exact H | (rw [hy193]; exact H) | exact H
 have Ny193 := Zm hy193
 clear hy193
 replace H := Option.bind_eq_some_iff.mp H
 obtain ⟨t196, A10, H⟩ := H
 replace H : ((diff3_Merge.f k y187 y190 y193).bind fun bt199 => ((diff3_Texts.f k (([(⟨#[97]⟩ : ByteArray)] : List ByteArray)) (([(⟨#[98]⟩ : ByteArray)] : List ByteArray)) (([(⟨#[97]⟩ : ByteArray)] : List ByteArray))).bind fun bt212 => (if (t196.length : Int) = 4 then (if 1 < (t196.length : Int) then (if ((rd_T41 t196 1).f0) = 1 then (if 3 < (t196.length : Int) then (if ((rd_T41 t196 3).f0) = 2 then ((diff3_Clean.f t196).bind fun t218 => (if t218 = true then (if bt199.2 = true then ((r05_Same.f k bt199.1 (([1, 4, 3, 5] : List Int))).bind fun t222 => (if t222 = true then (if bt212.2 = true then (if (bt212.1.length : Int) = 1 then (if 0 < (bt212.1.length : Int) then (if (rdOf ByteArray.empty bt212.1 0).toList = ([98] : List UInt8) then ((diff3_Parts.f k (([(⟨#[97]⟩ : ByteArray)] : List ByteArray)) ([] : List ByteArray) ([] : List ByteArray)).bind fun t227 => (some ((t227.length : Int) == 1))) else (none)) else (none)) else (none)) else (none)) else (none))) else (none)) else (none))) else (none)) else (none)) else (none)) else (none)) else (none)))) = some r := H
 have A1 := Zm A10
 clear A10
 replace H := Option.bind_eq_some_iff.mp H
 obtain ⟨⟨t199, t200⟩, A20, H⟩ := H
 replace H : ((diff3_Texts.f k (([(⟨#[97]⟩ : ByteArray)] : List ByteArray)) (([(⟨#[98]⟩ : ByteArray)] : List ByteArray)) (([(⟨#[97]⟩ : ByteArray)] : List ByteArray))).bind fun bt212 => (if (t196.length : Int) = 4 then (if 1 < (t196.length : Int) then (if ((rd_T41 t196 1).f0) = 1 then (if 3 < (t196.length : Int) then (if ((rd_T41 t196 3).f0) = 2 then ((diff3_Clean.f t196).bind fun t218 => (if t218 = true then (if t200 = true then ((r05_Same.f k t199 (([1, 4, 3, 5] : List Int))).bind fun t222 => (if t222 = true then (if bt212.2 = true then (if (bt212.1.length : Int) = 1 then (if 0 < (bt212.1.length : Int) then (if (rdOf ByteArray.empty bt212.1 0).toList = ([98] : List UInt8) then ((diff3_Parts.f k (([(⟨#[97]⟩ : ByteArray)] : List ByteArray)) ([] : List ByteArray) ([] : List ByteArray)).bind fun t227 => (some ((t227.length : Int) == 1))) else (none)) else (none)) else (none)) else (none)) else (none))) else (none)) else (none))) else (none)) else (none)) else (none)) else (none)) else (none))) = some r := H
 have A2 := Zm A20
 clear A20
 obtain ⟨y203, hy203⟩ : ∃ y_ : List ByteArray, y_ = (([(⟨#[97]⟩ : ByteArray)] : List ByteArray)) := ⟨_, rfl⟩
 replace H : ((diff3_Texts.f k y203 (([(⟨#[98]⟩ : ByteArray)] : List ByteArray)) (([(⟨#[97]⟩ : ByteArray)] : List ByteArray))).bind fun bt212 => (if (t196.length : Int) = 4 then (if 1 < (t196.length : Int) then (if ((rd_T41 t196 1).f0) = 1 then (if 3 < (t196.length : Int) then (if ((rd_T41 t196 3).f0) = 2 then ((diff3_Clean.f t196).bind fun t218 => (if t218 = true then (if t200 = true then ((r05_Same.f k t199 (([1, 4, 3, 5] : List Int))).bind fun t222 => (if t222 = true then (if bt212.2 = true then (if (bt212.1.length : Int) = 1 then (if 0 < (bt212.1.length : Int) then (if (rdOf ByteArray.empty bt212.1 0).toList = ([98] : List UInt8) then ((diff3_Parts.f k (([(⟨#[97]⟩ : ByteArray)] : List ByteArray)) ([] : List ByteArray) ([] : List ByteArray)).bind fun t227 => (some ((t227.length : Int) == 1))) else (none)) else (none)) else (none)) else (none)) else (none))) else (none)) else (none))) else (none)) else (none)) else (none)) else (none)) else (none))) = some r := by first | (rw [hy203]; with_reducible exact H) | (have H2_ := (Option.bind_some _ _).symm.trans H; rw [hy203]; with_reducible exact H2_) | (have H2_ := (Option.bind_some _ _).symm.trans H; with_reducible exact H2_) | with_reducible exact H | (rw [hy203]; exact H) | exact H
 have Ny203 := Zm hy203
 clear hy203
 obtain ⟨y206, hy206⟩ : ∃ y_ : List ByteArray, y_ = (([(⟨#[98]⟩ : ByteArray)] : List ByteArray)) := ⟨_, rfl⟩
 replace H : ((diff3_Texts.f k y203 y206 (([(⟨#[97]⟩ : ByteArray)] : List ByteArray))).bind fun bt212 => (if (t196.length : Int) = 4 then (if 1 < (t196.length : Int) then (if ((rd_T41 t196 1).f0) = 1 then (if 3 < (t196.length : Int) then (if ((rd_T41 t196 3).f0) = 2 then ((diff3_Clean.f t196).bind fun t218 => (if t218 = true then (if t200 = true then ((r05_Same.f k t199 (([1, 4, 3, 5] : List Int))).bind fun t222 => (if t222 = true then (if bt212.2 = true then (if (bt212.1.length : Int) = 1 then (if 0 < (bt212.1.length : Int) then (if (rdOf ByteArray.empty bt212.1 0).toList = ([98] : List UInt8) then ((diff3_Parts.f k (([(⟨#[97]⟩ : ByteArray)] : List ByteArray)) ([] : List ByteArray) ([] : List ByteArray)).bind fun t227 => (some ((t227.length : Int) == 1))) else (none)) else (none)) else (none)) else (none)) else (none))) else (none)) else (none))) else (none)) else (none)) else (none)) else (none)) else (none))) = some r := by first | (rw [hy206]; with_reducible exact H) | (have H2_ := (Option.bind_some _ _).symm.trans H; rw [hy206]; with_reducible exact H2_) | (have H2_ := (Option.bind_some _ _).symm.trans H; with_reducible exact H2_) | with_reducible exact H | (rw [hy206]; exact H) | exact H
 have Ny206 := Zm hy206
 clear hy206
 obtain ⟨y209, hy209⟩ : ∃ y_ : List ByteArray, y_ = (([(⟨#[97]⟩ : ByteArray)] : List ByteArray)) := ⟨_, rfl⟩
 replace H : ((diff3_Texts.f k y203 y206 y209).bind fun bt212 => (if (t196.length : Int) = 4 then (if 1 < (t196.length : Int) then (if ((rd_T41 t196 1).f0) = 1 then (if 3 < (t196.length : Int) then (if ((rd_T41 t196 3).f0) = 2 then ((diff3_Clean.f t196).bind fun t218 => (if t218 = true then (if t200 = true then ((r05_Same.f k t199 (([1, 4, 3, 5] : List Int))).bind fun t222 => (if t222 = true then (if bt212.2 = true then (if (bt212.1.length : Int) = 1 then (if 0 < (bt212.1.length : Int) then (if (rdOf ByteArray.empty bt212.1 0).toList = ([98] : List UInt8) then ((diff3_Parts.f k (([(⟨#[97]⟩ : ByteArray)] : List ByteArray)) ([] : List ByteArray) ([] : List ByteArray)).bind fun t227 => (some ((t227.length : Int) == 1))) else (none)) else (none)) else (none)) else (none)) else (none))) else (none)) else (none))) else (none)) else (none)) else (none)) else (none)) else (none))) = some r := by first | (rw [hy209]; with_reducible exact H) | (have H2_ := (Option.bind_some _ _).symm.trans H; rw [hy209]; with_reducible exact H2_) | (have H2_ := (Option.bind_some _ _).symm.trans H; with_reducible exact H2_) | with_reducible exact H | (rw [hy209]; exact H) | exact H
 have Ny209 := Zm hy209
 clear hy209
 replace H := Option.bind_eq_some_iff.mp H
 obtain ⟨⟨t212, t213⟩, A30, H⟩ := H
 replace H : (if (t196.length : Int) = 4 then (if 1 < (t196.length : Int) then (if ((rd_T41 t196 1).f0) = 1 then (if 3 < (t196.length : Int) then (if ((rd_T41 t196 3).f0) = 2 then ((diff3_Clean.f t196).bind fun t218 => (if t218 = true then (if t200 = true then ((r05_Same.f k t199 (([1, 4, 3, 5] : List Int))).bind fun t222 => (if t222 = true then (if t213 = true then (if (t212.length : Int) = 1 then (if 0 < (t212.length : Int) then (if (rdOf ByteArray.empty t212 0).toList = ([98] : List UInt8) then ((diff3_Parts.f k (([(⟨#[97]⟩ : ByteArray)] : List ByteArray)) ([] : List ByteArray) ([] : List ByteArray)).bind fun t227 => (some ((t227.length : Int) == 1))) else (none)) else (none)) else (none)) else (none)) else (none))) else (none)) else (none))) else (none)) else (none)) else (none)) else (none)) else (none)) = some r := H
 have A3 := Zm A30
 clear A30
 by_cases c4 : (t196.length : Int) = 4
 ·rw [if_pos c4] at H
  have c4b0 : ((t196.length : Int) == 4) = true := beq_iff_eq.mpr c4
  have c4b1 : ((t196.length : Int) != 4) = false := bne_eq_false_iff_eq.mpr c4
  clear c4
  by_cases c5 : 1 < (t196.length : Int)
  ·rw [if_pos c5] at H
   have c5b0 : decide (1 < (t196.length : Int)) = true := decide_eq_true c5
   have c5b1 : decide (1 < t196.length) = true := decide_eq_true (by omega)
   clear c5
   by_cases c6 : ((rd_T41 t196 1).f0) = 1
   ·rw [if_pos c6] at H
    have c6b0 : (((rd_T41 t196 1).f0) == 1) = true := beq_iff_eq.mpr c6
    have c6b1 : (((rd_T41 t196 1).f0) != 1) = false := bne_eq_false_iff_eq.mpr c6
    clear c6
    by_cases c7 : 3 < (t196.length : Int)
    ·rw [if_pos c7] at H
     have c7b0 : decide (3 < (t196.length : Int)) = true := decide_eq_true c7
     have c7b1 : decide (3 < t196.length) = true := decide_eq_true (by omega)
     clear c7
     by_cases c8 : ((rd_T41 t196 3).f0) = 2
     ·rw [if_pos c8] at H
      have c8b0 : (((rd_T41 t196 3).f0) == 2) = true := beq_iff_eq.mpr c8
      have c8b1 : (((rd_T41 t196 3).f0) != 2) = false := bne_eq_false_iff_eq.mpr c8
      clear c8
      replace H := Option.bind_eq_some_iff.mp H
      obtain ⟨t218, A90, H⟩ := H
      replace H : (if t218 = true then (if t200 = true then ((r05_Same.f k t199 (([1, 4, 3, 5] : List Int))).bind fun t222 => (if t222 = true then (if t213 = true then (if (t212.length : Int) = 1 then (if 0 < (t212.length : Int) then (if (rdOf ByteArray.empty t212 0).toList = ([98] : List UInt8) then ((diff3_Parts.f k (([(⟨#[97]⟩ : ByteArray)] : List ByteArray)) ([] : List ByteArray) ([] : List ByteArray)).bind fun t227 => (some ((t227.length : Int) == 1))) else (none)) else (none)) else (none)) else (none)) else (none))) else (none)) else (none)) = some r := H
      have A9 := Zm A90
      clear A90
      by_cases c10 : t218 = true
      ·subst c10
       have H1 : (if t200 = true then ((r05_Same.f k t199 (([1, 4, 3, 5] : List Int))).bind fun t222 => (if t222 = true then (if t213 = true then (if (t212.length : Int) = 1 then (if 0 < (t212.length : Int) then (if (rdOf ByteArray.empty t212 0).toList = ([98] : List UInt8) then ((diff3_Parts.f k (([(⟨#[97]⟩ : ByteArray)] : List ByteArray)) ([] : List ByteArray) ([] : List ByteArray)).bind fun t227 => (some ((t227.length : Int) == 1))) else (none)) else (none)) else (none)) else (none)) else (none))) else (none)) = some r := by rw [if_pos rfl] at H; exact H
       clear H
       have H := H1
       clear H1
       by_cases c11 : t200 = true
       ·subst c11
        have H1 : ((r05_Same.f k t199 (([1, 4, 3, 5] : List Int))).bind fun t222 => (if t222 = true then (if t213 = true then (if (t212.length : Int) = 1 then (if 0 < (t212.length : Int) then (if (rdOf ByteArray.empty t212 0).toList = ([98] : List UInt8) then ((diff3_Parts.f k (([(⟨#[97]⟩ : ByteArray)] : List ByteArray)) ([] : List ByteArray) ([] : List ByteArray)).bind fun t227 => (some ((t227.length : Int) == 1))) else (none)) else (none)) else (none)) else (none)) else (none))) = some r := by rw [if_pos rfl] at H; exact H
        clear H
        have H := H1
        clear H1
        obtain ⟨y219, hy219⟩ : ∃ y_ : List Int, y_ = (([1, 4, 3, 5] : List Int)) := ⟨_, rfl⟩
        replace H : ((r05_Same.f k t199 y219).bind fun t222 => (if t222 = true then (if t213 = true then (if (t212.length : Int) = 1 then (if 0 < (t212.length : Int) then (if (rdOf ByteArray.empty t212 0).toList = ([98] : List UInt8) then ((diff3_Parts.f k (([(⟨#[97]⟩ : ByteArray)] : List ByteArray)) ([] : List ByteArray) ([] : List ByteArray)).bind fun t227 => (some ((t227.length : Int) == 1))) else (none)) else (none)) else (none)) else (none)) else (none))) = some r := by first | (rw [hy219]; with_reducible exact H) | (have H2_ := (Option.bind_some _ _).symm.trans H; rw [hy219]; with_reducible exact H2_) | (have H2_ := (Option.bind_some _ _).symm.trans H; with_reducible exact H2_) | with_reducible exact H | (rw [hy219]; exact H) | exact H
        have Ny219 := Zm hy219
        clear hy219
        replace H := Option.bind_eq_some_iff.mp H
        obtain ⟨t222, A120, H⟩ := H
        replace H : (if t222 = true then (if t213 = true then (if (t212.length : Int) = 1 then (if 0 < (t212.length : Int) then (if (rdOf ByteArray.empty t212 0).toList = ([98] : List UInt8) then ((diff3_Parts.f k (([(⟨#[97]⟩ : ByteArray)] : List ByteArray)) ([] : List ByteArray) ([] : List ByteArray)).bind fun t227 => (some ((t227.length : Int) == 1))) else (none)) else (none)) else (none)) else (none)) else (none)) = some r := H
        have A12 := Zm A120
        clear A120
        by_cases c13 : t222 = true
        ·subst c13
         have H1 : (if t213 = true then (if (t212.length : Int) = 1 then (if 0 < (t212.length : Int) then (if (rdOf ByteArray.empty t212 0).toList = ([98] : List UInt8) then ((diff3_Parts.f k (([(⟨#[97]⟩ : ByteArray)] : List ByteArray)) ([] : List ByteArray) ([] : List ByteArray)).bind fun t227 => (some ((t227.length : Int) == 1))) else (none)) else (none)) else (none)) else (none)) = some r := by rw [if_pos rfl] at H; exact H
         clear H
         have H := H1
         clear H1
         by_cases c14 : t213 = true
         ·subst c14
          have H1 : (if (t212.length : Int) = 1 then (if 0 < (t212.length : Int) then (if (rdOf ByteArray.empty t212 0).toList = ([98] : List UInt8) then ((diff3_Parts.f k (([(⟨#[97]⟩ : ByteArray)] : List ByteArray)) ([] : List ByteArray) ([] : List ByteArray)).bind fun t227 => (some ((t227.length : Int) == 1))) else (none)) else (none)) else (none)) = some r := by rw [if_pos rfl] at H; exact H
          clear H
          have H := H1
          clear H1
          by_cases c15 : (t212.length : Int) = 1
          ·rw [if_pos c15] at H
           have c15b0 : ((t212.length : Int) == 1) = true := beq_iff_eq.mpr c15
           have c15b1 : ((t212.length : Int) != 1) = false := bne_eq_false_iff_eq.mpr c15
           clear c15
           by_cases c16 : 0 < (t212.length : Int)
           ·rw [if_pos c16] at H
            have c16b0 : decide (0 < (t212.length : Int)) = true := decide_eq_true c16
            have c16b1 : decide (0 < t212.length) = true := decide_eq_true (by omega)
            clear c16
            by_cases c17 : (rdOf ByteArray.empty t212 0).toList = ([98] : List UInt8)
            ·rw [if_pos c17] at H
             have c17b0 : ((rdOf ByteArray.empty t212 0).toList == ([98] : List UInt8)) = true := beq_iff_eq.mpr c17
             have c17b1 : ((rdOf ByteArray.empty t212 0).toList != ([98] : List UInt8)) = false := bne_eq_false_iff_eq.mpr c17
             clear c17
             obtain ⟨y224, hy224⟩ : ∃ y_ : List ByteArray, y_ = (([(⟨#[97]⟩ : ByteArray)] : List ByteArray)) := ⟨_, rfl⟩
             replace H : ((diff3_Parts.f k y224 ([] : List ByteArray) ([] : List ByteArray)).bind fun t227 => (some ((t227.length : Int) == 1))) = some r := by first | (rw [hy224]; with_reducible exact H) | (have H2_ := (Option.bind_some _ _).symm.trans H; rw [hy224]; with_reducible exact H2_) | (have H2_ := (Option.bind_some _ _).symm.trans H; with_reducible exact H2_) | with_reducible exact H | (rw [hy224]; exact H) | exact H
             have Ny224 := Zm hy224
             clear hy224
             replace H := Option.bind_eq_some_iff.mp H
             obtain ⟨t227, A180, H⟩ := H
             replace H : (some ((t227.length : Int) == 1)) = some r := H
             have A18 := Zm A180
             clear A180
             obtain rfl := Option.some.inj H
             go_enter Try.func8, Try.ntmps8
             go_wp2_with (first | ((with_reducible refine gate_dst (N := 9) rfl ?_); (try (refine gate_guard (by rfl) ?_; dsimp only)); refine Kd.R_lit (Kd.int .i64) _ 3 ?hg (N := 9) ?hd (xs := ([1, 2, 3] : List Int)) (inner := [.int .i64 1, .int .i64 2, .int .i64 3]) (ok := fun _ => True) (okp := fun _ => True) ?hr ?hp (fun _ hk => hk) trivial (Below.refl _ _) (Nat.le_refl _) (by simp) ?_; (case hd => rfl); (case hg => rfl); (case hr => first | (go_simp; done) | (go_simp; rfl)); (case hp => exact (Reps.one (show Kd.M (Kd.int .i64) _ _ _ 1 [.int .i64 1] from rfl) (Reps.one (show Kd.M (Kd.int .i64) _ _ _ 2 [.int .i64 2] from rfl) (Reps.one (show Kd.M (Kd.int .i64) _ _ _ 3 [.int .i64 3] from rfl) (Reps.none _ _))))); intro v188 w19 ho20 hb hg_ hnew_; clear hg_ hnew_; (first | rw [← Ny187.out] at ho20 | (simp only [Int.reduceToNat] at ho20; rw [← Ny187.out] at ho20)); have n0_ := Zm (Kd.R_lower ho20 (below_size (by repeat (first | (with_reducible first | exact HB.out | apply below_alloc | apply Zd | apply below_drew1) | exact HB.out)))); have n1_ := Zm (below_step (by repeat (first | (with_reducible first | exact HB.out | apply below_alloc | apply Zd | apply below_drew1) | exact HB.out)) hb); clear HB; have HO189 := n0_; have HB := n1_; clear n0_ n1_; clear hb ho20) | ((with_reducible refine gate_dst (N := 10) rfl ?_); (try (refine gate_guard (by rfl) ?_; dsimp only)); refine Kd.R_lit (Kd.int .i64) _ 3 ?hg (N := 10) ?hd (xs := ([1, 4, 3] : List Int)) (inner := [.int .i64 1, .int .i64 4, .int .i64 3]) (ok := fun _ => True) (okp := fun _ => True) ?hr ?hp (fun _ hk => hk) trivial (Below.refl _ _) (Nat.le_refl _) (by simp) ?_; (case hd => rfl); (case hg => rfl); (case hr => first | (go_simp; done) | (go_simp; rfl)); (case hp => exact (Reps.one (show Kd.M (Kd.int .i64) _ _ _ 1 [.int .i64 1] from rfl) (Reps.one (show Kd.M (Kd.int .i64) _ _ _ 4 [.int .i64 4] from rfl) (Reps.one (show Kd.M (Kd.int .i64) _ _ _ 3 [.int .i64 3] from rfl) (Reps.none _ _))))); intro v191 w21 ho22 hb hg_ hnew_; clear hg_ hnew_; (first | rw [← Ny190.out] at ho22 | (simp only [Int.reduceToNat] at ho22; rw [← Ny190.out] at ho22)); have n0_ := Zm (Kd.R_elder' (by (with_reducible repeat (first | apply Kd.R_alloc | apply Kd.R_drewN | apply Kd.R_drew)); exact HO189.out) (Kd.R_base ho22) hb); have n1_ := Zm (Kd.R_lower (Kd.R_new' ho22 (Kd.R_lt (by (with_reducible repeat (first | apply Kd.R_alloc | apply Kd.R_drewN | apply Kd.R_drew)); exact HO189.out))) (below_size (by repeat (first | (with_reducible first | exact HB.out | apply below_alloc | apply Zd | apply below_drew1) | exact HB.out)))); have n2_ := Zm (below_step (by repeat (first | (with_reducible first | exact HB.out | apply below_alloc | apply Zd | apply below_drew1) | exact HB.out)) hb); clear HO189; clear HB; have HO189 := n0_; have HO192 := n1_; have HB := n2_; clear n0_ n1_ n2_; clear hb ho22) | ((with_reducible refine gate_dst (N := 11) rfl ?_); (try (refine gate_guard (by rfl) ?_; dsimp only)); refine Kd.R_lit (Kd.int .i64) _ 3 ?hg (N := 11) ?hd (xs := ([1, 2, 3, 5] : List Int)) (inner := [.int .i64 1, .int .i64 2, .int .i64 3, .int .i64 5]) (ok := fun _ => True) (okp := fun _ => True) ?hr ?hp (fun _ hk => hk) trivial (Below.refl _ _) (Nat.le_refl _) (by simp) ?_; (case hd => rfl); (case hg => rfl); (case hr => first | (go_simp; done) | (go_simp; rfl)); (case hp => exact (Reps.one (show Kd.M (Kd.int .i64) _ _ _ 1 [.int .i64 1] from rfl) (Reps.one (show Kd.M (Kd.int .i64) _ _ _ 2 [.int .i64 2] from rfl) (Reps.one (show Kd.M (Kd.int .i64) _ _ _ 3 [.int .i64 3] from rfl) (Reps.one (show Kd.M (Kd.int .i64) _ _ _ 5 [.int .i64 5] from rfl) (Reps.none _ _)))))); intro v194 w23 ho24 hb hg_ hnew_; clear hg_ hnew_; (first | rw [← Ny193.out] at ho24 | (simp only [Int.reduceToNat] at ho24; rw [← Ny193.out] at ho24)); have n0_ := Zm (Kd.R_elder' (by (with_reducible repeat (first | apply Kd.R_alloc | apply Kd.R_drewN | apply Kd.R_drew)); exact HO189.out) (Kd.R_base ho24) hb); have n1_ := Zm (Kd.R_elder' (by (with_reducible repeat (first | apply Kd.R_alloc | apply Kd.R_drewN | apply Kd.R_drew)); exact HO192.out) (Kd.R_base ho24) hb); have n2_ := Zm (Kd.R_lower (Kd.R_new' (Kd.R_new' ho24 (Kd.R_lt (by (with_reducible repeat (first | apply Kd.R_alloc | apply Kd.R_drewN | apply Kd.R_drew)); exact HO189.out))) (Kd.R_lt (by (with_reducible repeat (first | apply Kd.R_alloc | apply Kd.R_drewN | apply Kd.R_drew)); exact HO192.out))) (below_size (by repeat (first | (with_reducible first | exact HB.out | apply below_alloc | apply Zd | apply below_drew1) | exact HB.out)))); have n3_ := Zm (below_step (by repeat (first | (with_reducible first | exact HB.out | apply below_alloc | apply Zd | apply below_drew1) | exact HB.out)) hb); clear HO189; clear HO192; clear HB; have HO189 := n0_; have HO192 := n1_; have HO195 := n2_; have HB := n3_; clear n0_ n1_ n2_ n3_; clear hb ho24; obtain ⟨Ao25, co25, eo25⟩ := Kd.R_slice HO189.out; subst eo25; obtain ⟨Ao26, co26, eo26⟩ := Kd.R_slice HO192.out; subst eo26; obtain ⟨Ao27, co27, eo27⟩ := Kd.R_slice HO195.out; subst eo27) | ((with_reducible refine gate_callee (f := 10) rfl ?_); refine goesL_ (some 15) rfl rfl Try.func10 (by kernel_rfl) rfl #[.slice Ao25 y187.length co25, .slice Ao26 y190.length co26, .slice Ao27 y193.length co27] rfl (by (try simp only [List.map_toArray, List.map_cons, List.map_nil]); first | done | rfl | (simp only [List.length_drop, List.length_take]; rfl)) ?_; (with_reducible refine (diff3_Chunks.calls k _ _ y187 _ _ y190 _ _ y193 t196 _ ?side1 ?side2 ?side3 ?side4 ?side5 ?side6 A1.out).mono ?_); (case side1 => repeat (first | exact (Kd.R_reads' HO189.out).2.2 | (with_reducible refine Kd.C_alloc ?_ _) | (with_reducible refine Kd.C_drewN ?_ _) | (with_reducible refine Kd.C_drew ?_))); (case side2 => exact (Kd.R_reads' HO189.out).2.1); (case side3 => repeat (first | exact (Kd.R_reads' HO192.out).2.2 | (with_reducible refine Kd.C_alloc ?_ _) | (with_reducible refine Kd.C_drewN ?_ _) | (with_reducible refine Kd.C_drew ?_))); (case side4 => exact (Kd.R_reads' HO192.out).2.1); (case side5 => repeat (first | exact (Kd.R_reads' HO195.out).2.2 | (with_reducible refine Kd.C_alloc ?_ _) | (with_reducible refine Kd.C_drewN ?_ _) | (with_reducible refine Kd.C_drew ?_))); (case side6 => exact (Kd.R_reads' HO195.out).2.1); rintro e w28 ⟨v197, rfl, ho0, hb⟩; refine ⟨_, rfl, ?_⟩; have n0_ := Zm (Kd.R_below (by (with_reducible repeat (first | apply Kd.R_alloc | apply Kd.R_drewN | apply Kd.R_drew)); exact HO189.out) hb); have n1_ := Zm (Kd.R_below (by (with_reducible repeat (first | apply Kd.R_alloc | apply Kd.R_drewN | apply Kd.R_drew)); exact HO192.out) hb); have n2_ := Zm (Kd.R_below (by (with_reducible repeat (first | apply Kd.R_alloc | apply Kd.R_drewN | apply Kd.R_drew)); exact HO195.out) hb); have n3_ := Zm (Kd.R_lower ho0 (below_size (by repeat (first | (with_reducible first | exact HB.out | apply below_alloc | apply Zd | apply below_drew1) | exact HB.out)))); have n4_ := Zm (below_step (by repeat (first | (with_reducible first | exact HB.out | apply below_alloc | apply Zd | apply below_drew1) | exact HB.out)) hb); clear HO189; clear HO192; clear HO195; clear HB; have HO189 := n0_; have HO192 := n1_; have HO195 := n2_; have HO198 := n3_; have HB := n4_; clear n0_ n1_ n2_ n3_ n4_; (try clear hb); (try clear hb2); (try clear hk); (try clear hi); (try clear ho0)) | ((with_reducible refine gate_callee (f := 11) rfl ?_); refine goesL_ (some 20) rfl rfl Try.func11 (by kernel_rfl) rfl #[.slice Ao25 y187.length co25, .slice Ao26 y190.length co26, .slice Ao27 y193.length co27] rfl (by (try simp only [List.map_toArray, List.map_cons, List.map_nil]); first | done | rfl | (simp only [List.length_drop, List.length_take]; rfl)) ?_; (with_reducible refine (diff3_Merge.calls k _ _ y187 _ _ y190 _ _ y193 t199 true _ ?side1 ?side2 ?side3 ?side4 ?side5 ?side6 A2.out).mono ?_); (case side1 => repeat (first | exact (Kd.R_reads' HO189.out).2.2 | (with_reducible refine Kd.C_alloc ?_ _) | (with_reducible refine Kd.C_drewN ?_ _) | (with_reducible refine Kd.C_drew ?_))); (case side2 => exact (Kd.R_reads' HO189.out).2.1); (case side3 => repeat (first | exact (Kd.R_reads' HO192.out).2.2 | (with_reducible refine Kd.C_alloc ?_ _) | (with_reducible refine Kd.C_drewN ?_ _) | (with_reducible refine Kd.C_drew ?_))); (case side4 => exact (Kd.R_reads' HO192.out).2.1); (case side5 => repeat (first | exact (Kd.R_reads' HO195.out).2.2 | (with_reducible refine Kd.C_alloc ?_ _) | (with_reducible refine Kd.C_drewN ?_ _) | (with_reducible refine Kd.C_drew ?_))); (case side6 => exact (Kd.R_reads' HO195.out).2.1); rintro e w29 ⟨v201, rfl, ho0, hb⟩; refine ⟨_, rfl, ?_⟩; have n0_ := Zm (Kd.R_elder' (by (with_reducible repeat (first | apply Kd.R_alloc | apply Kd.R_drewN | apply Kd.R_drew)); exact HO189.out) (Kd.R_base ho0) hb); have n1_ := Zm (Kd.R_elder' (by (with_reducible repeat (first | apply Kd.R_alloc | apply Kd.R_drewN | apply Kd.R_drew)); exact HO192.out) (Kd.R_base ho0) hb); have n2_ := Zm (Kd.R_elder' (by (with_reducible repeat (first | apply Kd.R_alloc | apply Kd.R_drewN | apply Kd.R_drew)); exact HO195.out) (Kd.R_base ho0) hb); have n3_ := Zm (Kd.R_below (by (with_reducible repeat (first | apply Kd.R_alloc | apply Kd.R_drewN | apply Kd.R_drew)); exact HO198.out) hb); have n4_ := Zm (Kd.R_lower (Kd.R_new' (Kd.R_new' (Kd.R_new' ho0 (Kd.R_lt (by (with_reducible repeat (first | apply Kd.R_alloc | apply Kd.R_drewN | apply Kd.R_drew)); exact HO189.out))) (Kd.R_lt (by (with_reducible repeat (first | apply Kd.R_alloc | apply Kd.R_drewN | apply Kd.R_drew)); exact HO192.out))) (Kd.R_lt (by (with_reducible repeat (first | apply Kd.R_alloc | apply Kd.R_drewN | apply Kd.R_drew)); exact HO195.out))) (below_size (by repeat (first | (with_reducible first | exact HB.out | apply below_alloc | apply Zd | apply below_drew1) | exact HB.out)))); have n5_ := Zm (below_step (by repeat (first | (with_reducible first | exact HB.out | apply below_alloc | apply Zd | apply below_drew1) | exact HB.out)) hb); clear HO189; clear HO192; clear HO195; clear HO198; clear HB; have HO189 := n0_; have HO192 := n1_; have HO195 := n2_; have HO198 := n3_; have HO202 := n4_; have HB := n5_; clear n0_ n1_ n2_ n3_ n4_ n5_; (try clear hb); (try clear hb2); (try clear hk); (try clear hi); (try clear ho0)) | ((with_reducible refine gate_dst (N := 24) rfl ?_); (try (refine gate_guard (by rfl) ?_; dsimp only)); refine Kd.R_lit Kd.string _ 9 ?hg (N := 24) ?hd (xs := ([(⟨#[97]⟩ : ByteArray)] : List ByteArray)) (inner := [.string (⟨#[97]⟩ : ByteArray)]) (ok := fun _ => True) (okp := fun _ => True) ?hr ?hp (fun _ hk => hk) trivial (Below.refl _ _) (Nat.le_refl _) (by simp) ?_; (case hd => rfl); (case hg => rfl); (case hr => first | (go_simp; done) | (go_simp; rfl)); (case hp => exact (Reps.one (show Kd.M Kd.string _ _ _ (⟨#[97]⟩ : ByteArray) [.string (⟨#[97]⟩ : ByteArray)] from rfl) (Reps.none _ _))); intro v204 w30 ho31 hb hg_ hnew_; clear hg_ hnew_; (first | rw [← Ny203.out] at ho31 | (simp only [Int.reduceToNat] at ho31; rw [← Ny203.out] at ho31)); have n0_ := Zm (Kd.R_below (by (with_reducible repeat (first | apply Kd.R_alloc | apply Kd.R_drewN | apply Kd.R_drew)); exact HO189.out) hb); have n1_ := Zm (Kd.R_below (by (with_reducible repeat (first | apply Kd.R_alloc | apply Kd.R_drewN | apply Kd.R_drew)); exact HO192.out) hb); have n2_ := Zm (Kd.R_below (by (with_reducible repeat (first | apply Kd.R_alloc | apply Kd.R_drewN | apply Kd.R_drew)); exact HO195.out) hb); have n3_ := Zm (Kd.R_below (by (with_reducible repeat (first | apply Kd.R_alloc | apply Kd.R_drewN | apply Kd.R_drew)); exact HO198.out) hb); have n4_ := Zm (Kd.R_below (by (with_reducible repeat (first | apply Kd.R_alloc | apply Kd.R_drewN | apply Kd.R_drew)); exact HO202.out) hb); have n5_ := Zm (Kd.R_lower ho31 (below_size (by repeat (first | (with_reducible first | exact HB.out | apply below_alloc | apply Zd | apply below_drew1) | exact HB.out)))); have n6_ := Zm (below_step (by repeat (first | (with_reducible first | exact HB.out | apply below_alloc | apply Zd | apply below_drew1) | exact HB.out)) hb); clear HO189; clear HO192; clear HO195; clear HO198; clear HO202; clear HB; have HO189 := n0_; have HO192 := n1_; have HO195 := n2_; have HO198 := n3_; have HO202 := n4_; have HO205 := n5_; have HB := n6_; clear n0_ n1_ n2_ n3_ n4_ n5_ n6_; clear hb ho31) | ((with_reducible refine gate_dst (N := 25) rfl ?_); (try (refine gate_guard (by rfl) ?_; dsimp only)); refine Kd.R_lit Kd.string _ 9 ?hg (N := 25) ?hd (xs := ([(⟨#[98]⟩ : ByteArray)] : List ByteArray)) (inner := [.string (⟨#[98]⟩ : ByteArray)]) (ok := fun _ => True) (okp := fun _ => True) ?hr ?hp (fun _ hk => hk) trivial (Below.refl _ _) (Nat.le_refl _) (by simp) ?_; (case hd => rfl); (case hg => rfl); (case hr => first | (go_simp; done) | (go_simp; rfl)); (case hp => exact (Reps.one (show Kd.M Kd.string _ _ _ (⟨#[98]⟩ : ByteArray) [.string (⟨#[98]⟩ : ByteArray)] from rfl) (Reps.none _ _))); intro v207 w32 ho33 hb hg_ hnew_; clear hg_ hnew_; (first | rw [← Ny206.out] at ho33 | (simp only [Int.reduceToNat] at ho33; rw [← Ny206.out] at ho33)); have n0_ := Zm (Kd.R_below (by (with_reducible repeat (first | apply Kd.R_alloc | apply Kd.R_drewN | apply Kd.R_drew)); exact HO189.out) hb); have n1_ := Zm (Kd.R_below (by (with_reducible repeat (first | apply Kd.R_alloc | apply Kd.R_drewN | apply Kd.R_drew)); exact HO192.out) hb); have n2_ := Zm (Kd.R_below (by (with_reducible repeat (first | apply Kd.R_alloc | apply Kd.R_drewN | apply Kd.R_drew)); exact HO195.out) hb); have n3_ := Zm (Kd.R_below (by (with_reducible repeat (first | apply Kd.R_alloc | apply Kd.R_drewN | apply Kd.R_drew)); exact HO198.out) hb); have n4_ := Zm (Kd.R_below (by (with_reducible repeat (first | apply Kd.R_alloc | apply Kd.R_drewN | apply Kd.R_drew)); exact HO202.out) hb); have n5_ := Zm (Kd.R_elder' (by (with_reducible repeat (first | apply Kd.R_alloc | apply Kd.R_drewN | apply Kd.R_drew)); exact HO205.out) (Kd.R_base ho33) hb); have n6_ := Zm (Kd.R_lower (Kd.R_new' ho33 (Kd.R_lt (by (with_reducible repeat (first | apply Kd.R_alloc | apply Kd.R_drewN | apply Kd.R_drew)); exact HO205.out))) (below_size (by repeat (first | (with_reducible first | exact HB.out | apply below_alloc | apply Zd | apply below_drew1) | exact HB.out)))); have n7_ := Zm (below_step (by repeat (first | (with_reducible first | exact HB.out | apply below_alloc | apply Zd | apply below_drew1) | exact HB.out)) hb); clear HO189; clear HO192; clear HO195; clear HO198; clear HO202; clear HO205; clear HB; have HO189 := n0_; have HO192 := n1_; have HO195 := n2_; have HO198 := n3_; have HO202 := n4_; have HO205 := n5_; have HO208 := n6_; have HB := n7_; clear n0_ n1_ n2_ n3_ n4_ n5_ n6_ n7_; clear hb ho33) | ((with_reducible refine gate_dst (N := 26) rfl ?_); (try (refine gate_guard (by rfl) ?_; dsimp only)); refine Kd.R_lit Kd.string _ 9 ?hg (N := 26) ?hd (xs := ([(⟨#[97]⟩ : ByteArray)] : List ByteArray)) (inner := [.string (⟨#[97]⟩ : ByteArray)]) (ok := fun _ => True) (okp := fun _ => True) ?hr ?hp (fun _ hk => hk) trivial (Below.refl _ _) (Nat.le_refl _) (by simp) ?_; (case hd => rfl); (case hg => rfl); (case hr => first | (go_simp; done) | (go_simp; rfl)); (case hp => exact (Reps.one (show Kd.M Kd.string _ _ _ (⟨#[97]⟩ : ByteArray) [.string (⟨#[97]⟩ : ByteArray)] from rfl) (Reps.none _ _))); intro v210 w34 ho35 hb hg_ hnew_; clear hg_ hnew_; (first | rw [← Ny209.out] at ho35 | (simp only [Int.reduceToNat] at ho35; rw [← Ny209.out] at ho35)); have n0_ := Zm (Kd.R_below (by (with_reducible repeat (first | apply Kd.R_alloc | apply Kd.R_drewN | apply Kd.R_drew)); exact HO189.out) hb); have n1_ := Zm (Kd.R_below (by (with_reducible repeat (first | apply Kd.R_alloc | apply Kd.R_drewN | apply Kd.R_drew)); exact HO192.out) hb); have n2_ := Zm (Kd.R_below (by (with_reducible repeat (first | apply Kd.R_alloc | apply Kd.R_drewN | apply Kd.R_drew)); exact HO195.out) hb); have n3_ := Zm (Kd.R_below (by (with_reducible repeat (first | apply Kd.R_alloc | apply Kd.R_drewN | apply Kd.R_drew)); exact HO198.out) hb); have n4_ := Zm (Kd.R_below (by (with_reducible repeat (first | apply Kd.R_alloc | apply Kd.R_drewN | apply Kd.R_drew)); exact HO202.out) hb); have n5_ := Zm (Kd.R_elder' (by (with_reducible repeat (first | apply Kd.R_alloc | apply Kd.R_drewN | apply Kd.R_drew)); exact HO205.out) (Kd.R_base ho35) hb); have n6_ := Zm (Kd.R_elder' (by (with_reducible repeat (first | apply Kd.R_alloc | apply Kd.R_drewN | apply Kd.R_drew)); exact HO208.out) (Kd.R_base ho35) hb); have n7_ := Zm (Kd.R_lower (Kd.R_new' (Kd.R_new' ho35 (Kd.R_lt (by (with_reducible repeat (first | apply Kd.R_alloc | apply Kd.R_drewN | apply Kd.R_drew)); exact HO205.out))) (Kd.R_lt (by (with_reducible repeat (first | apply Kd.R_alloc | apply Kd.R_drewN | apply Kd.R_drew)); exact HO208.out))) (below_size (by repeat (first | (with_reducible first | exact HB.out | apply below_alloc | apply Zd | apply below_drew1) | exact HB.out)))); have n8_ := Zm (below_step (by repeat (first | (with_reducible first | exact HB.out | apply below_alloc | apply Zd | apply below_drew1) | exact HB.out)) hb); clear HO189; clear HO192; clear HO195; clear HO198; clear HO202; clear HO205; clear HO208; clear HB; have HO189 := n0_; have HO192 := n1_; have HO195 := n2_; have HO198 := n3_; have HO202 := n4_; have HO205 := n5_; have HO208 := n6_; have HO211 := n7_; have HB := n8_; clear n0_ n1_ n2_ n3_ n4_ n5_ n6_ n7_ n8_; clear hb ho35; obtain ⟨Ao36, co36, eo36⟩ := Kd.R_slice HO205.out; subst eo36; obtain ⟨Ao37, co37, eo37⟩ := Kd.R_slice HO208.out; subst eo37; obtain ⟨Ao38, co38, eo38⟩ := Kd.R_slice HO211.out; subst eo38) | ((with_reducible refine gate_callee (f := 18) rfl ?_); refine goesL_ (some 27) rfl rfl Try.func18 (by kernel_rfl) rfl #[.slice Ao36 y203.length co36, .slice Ao37 y206.length co37, .slice Ao38 y209.length co38] rfl (by (try simp only [List.map_toArray, List.map_cons, List.map_nil]); first | done | rfl | (simp only [List.length_drop, List.length_take]; rfl)) ?_; (with_reducible refine (diff3_Texts.calls k _ _ y203 _ _ y206 _ _ y209 t212 true _ ?side1 ?side2 ?side3 ?side4 ?side5 ?side6 A3.out).mono ?_); (case side1 => repeat (first | exact (Kd.R_reads' HO205.out).2.2 | (with_reducible refine Kd.C_alloc ?_ _) | (with_reducible refine Kd.C_drewN ?_ _) | (with_reducible refine Kd.C_drew ?_))); (case side2 => exact (Kd.R_reads' HO205.out).2.1); (case side3 => repeat (first | exact (Kd.R_reads' HO208.out).2.2 | (with_reducible refine Kd.C_alloc ?_ _) | (with_reducible refine Kd.C_drewN ?_ _) | (with_reducible refine Kd.C_drew ?_))); (case side4 => exact (Kd.R_reads' HO208.out).2.1); (case side5 => repeat (first | exact (Kd.R_reads' HO211.out).2.2 | (with_reducible refine Kd.C_alloc ?_ _) | (with_reducible refine Kd.C_drewN ?_ _) | (with_reducible refine Kd.C_drew ?_))); (case side6 => exact (Kd.R_reads' HO211.out).2.1); rintro e w39 ⟨v214, rfl, ho0, hb⟩; refine ⟨_, rfl, ?_⟩; have n0_ := Zm (Kd.R_below (by (with_reducible repeat (first | apply Kd.R_alloc | apply Kd.R_drewN | apply Kd.R_drew)); exact HO189.out) hb); have n1_ := Zm (Kd.R_below (by (with_reducible repeat (first | apply Kd.R_alloc | apply Kd.R_drewN | apply Kd.R_drew)); exact HO192.out) hb); have n2_ := Zm (Kd.R_below (by (with_reducible repeat (first | apply Kd.R_alloc | apply Kd.R_drewN | apply Kd.R_drew)); exact HO195.out) hb); have n3_ := Zm (Kd.R_below (by (with_reducible repeat (first | apply Kd.R_alloc | apply Kd.R_drewN | apply Kd.R_drew)); exact HO198.out) hb); have n4_ := Zm (Kd.R_below (by (with_reducible repeat (first | apply Kd.R_alloc | apply Kd.R_drewN | apply Kd.R_drew)); exact HO202.out) hb); have n5_ := Zm (Kd.R_elder' (by (with_reducible repeat (first | apply Kd.R_alloc | apply Kd.R_drewN | apply Kd.R_drew)); exact HO205.out) (Kd.R_base ho0) hb); have n6_ := Zm (Kd.R_elder' (by (with_reducible repeat (first | apply Kd.R_alloc | apply Kd.R_drewN | apply Kd.R_drew)); exact HO208.out) (Kd.R_base ho0) hb); have n7_ := Zm (Kd.R_elder' (by (with_reducible repeat (first | apply Kd.R_alloc | apply Kd.R_drewN | apply Kd.R_drew)); exact HO211.out) (Kd.R_base ho0) hb); have n8_ := Zm (Kd.R_lower (Kd.R_new' (Kd.R_new' (Kd.R_new' ho0 (Kd.R_lt (by (with_reducible repeat (first | apply Kd.R_alloc | apply Kd.R_drewN | apply Kd.R_drew)); exact HO205.out))) (Kd.R_lt (by (with_reducible repeat (first | apply Kd.R_alloc | apply Kd.R_drewN | apply Kd.R_drew)); exact HO208.out))) (Kd.R_lt (by (with_reducible repeat (first | apply Kd.R_alloc | apply Kd.R_drewN | apply Kd.R_drew)); exact HO211.out))) (below_size (by repeat (first | (with_reducible first | exact HB.out | apply below_alloc | apply Zd | apply below_drew1) | exact HB.out)))); have n9_ := Zm (below_step (by repeat (first | (with_reducible first | exact HB.out | apply below_alloc | apply Zd | apply below_drew1) | exact HB.out)) hb); clear HO189; clear HO192; clear HO195; clear HO198; clear HO202; clear HO205; clear HO208; clear HO211; clear HB; have HO189 := n0_; have HO192 := n1_; have HO195 := n2_; have HO198 := n3_; have HO202 := n4_; have HO205 := n5_; have HO208 := n6_; have HO211 := n7_; have HO215 := n8_; have HB := n9_; clear n0_ n1_ n2_ n3_ n4_ n5_ n6_ n7_ n8_ n9_; (try clear hb); (try clear hb2); (try clear hk); (try clear hi); (try clear ho0); obtain ⟨Ao40, co40, eo40⟩ := Kd.R_slice HO198.out; subst eo40; have p216 : 0 ≤ (1 : Int) := (by omega); have q216 : 1 < (t196.length : Int) := Zo (by first | (with_reducible assumption) | assumption); obtain ⟨ad216, e216, hx216_0, hx216_1, hx216_2, hx216_3, hx216_4, hx216_5, hx216_6⟩ := at_T41 (Kd.R_reads' HO198.out).2.2 1 p216 q216; cases e216; (try simp only [show (1 : Int).toNat = 1 from rfl, Nat.reduceMul, Nat.reduceEqDiff, Go.Addr.add, ↓reduceIte] at hx216_0); (try simp only [show (1 : Int).toNat = 1 from rfl, Nat.reduceMul, Nat.reduceEqDiff, Go.Addr.add, ↓reduceIte] at hx216_1); (try simp only [show (1 : Int).toNat = 1 from rfl, Nat.reduceMul, Nat.reduceEqDiff, Go.Addr.add, ↓reduceIte] at hx216_2); (try simp only [show (1 : Int).toNat = 1 from rfl, Nat.reduceMul, Nat.reduceEqDiff, Go.Addr.add, ↓reduceIte] at hx216_3); (try simp only [show (1 : Int).toNat = 1 from rfl, Nat.reduceMul, Nat.reduceEqDiff, Go.Addr.add, ↓reduceIte] at hx216_4); (try simp only [show (1 : Int).toNat = 1 from rfl, Nat.reduceMul, Nat.reduceEqDiff, Go.Addr.add, ↓reduceIte] at hx216_5); (try simp only [show (1 : Int).toNat = 1 from rfl, Nat.reduceMul, Nat.reduceEqDiff, Go.Addr.add, ↓reduceIte] at hx216_6); have qi216 : (1 < t196.length) = True := eq_true (by omega); (try rw [show ((1 : Int)).toNat = 1 from rfl] at hx216_0); (try rw [show 1 * 7 = 7 from rfl] at hx216_0); (try rw [show ((1 : Int)).toNat = 1 from rfl] at hx216_1); (try rw [show 1 * 7 = 7 from rfl] at hx216_1); (try rw [show ((1 : Int)).toNat = 1 from rfl] at hx216_2); (try rw [show 1 * 7 = 7 from rfl] at hx216_2); (try rw [show ((1 : Int)).toNat = 1 from rfl] at hx216_3); (try rw [show 1 * 7 = 7 from rfl] at hx216_3); (try rw [show ((1 : Int)).toNat = 1 from rfl] at hx216_4); (try rw [show 1 * 7 = 7 from rfl] at hx216_4); (try rw [show ((1 : Int)).toNat = 1 from rfl] at hx216_5); (try rw [show 1 * 7 = 7 from rfl] at hx216_5); (try rw [show ((1 : Int)).toNat = 1 from rfl] at hx216_6); (try rw [show 1 * 7 = 7 from rfl] at hx216_6); replace p216 := eq_true p216; replace q216 := eq_true q216; have p217 : 0 ≤ (3 : Int) := (by omega); have q217 : 3 < (t196.length : Int) := Zo (by first | (with_reducible assumption) | assumption); obtain ⟨ad217, e217, hx217_0, hx217_1, hx217_2, hx217_3, hx217_4, hx217_5, hx217_6⟩ := at_T41 (Kd.R_reads' HO198.out).2.2 3 p217 q217; obtain rfl : ad216 = ad217 := (by injection e217); (try simp only [show (3 : Int).toNat = 3 from rfl, Nat.reduceMul, Nat.reduceEqDiff, Go.Addr.add, ↓reduceIte] at hx217_0); (try simp only [show (3 : Int).toNat = 3 from rfl, Nat.reduceMul, Nat.reduceEqDiff, Go.Addr.add, ↓reduceIte] at hx217_1); (try simp only [show (3 : Int).toNat = 3 from rfl, Nat.reduceMul, Nat.reduceEqDiff, Go.Addr.add, ↓reduceIte] at hx217_2); (try simp only [show (3 : Int).toNat = 3 from rfl, Nat.reduceMul, Nat.reduceEqDiff, Go.Addr.add, ↓reduceIte] at hx217_3); (try simp only [show (3 : Int).toNat = 3 from rfl, Nat.reduceMul, Nat.reduceEqDiff, Go.Addr.add, ↓reduceIte] at hx217_4); (try simp only [show (3 : Int).toNat = 3 from rfl, Nat.reduceMul, Nat.reduceEqDiff, Go.Addr.add, ↓reduceIte] at hx217_5); (try simp only [show (3 : Int).toNat = 3 from rfl, Nat.reduceMul, Nat.reduceEqDiff, Go.Addr.add, ↓reduceIte] at hx217_6); have qi217 : (3 < t196.length) = True := eq_true (by omega); (try rw [show ((3 : Int)).toNat = 3 from rfl] at hx217_0); (try rw [show 3 * 7 = 21 from rfl] at hx217_0); (try rw [show ((3 : Int)).toNat = 3 from rfl] at hx217_1); (try rw [show 3 * 7 = 21 from rfl] at hx217_1); (try rw [show ((3 : Int)).toNat = 3 from rfl] at hx217_2); (try rw [show 3 * 7 = 21 from rfl] at hx217_2); (try rw [show ((3 : Int)).toNat = 3 from rfl] at hx217_3); (try rw [show 3 * 7 = 21 from rfl] at hx217_3); (try rw [show ((3 : Int)).toNat = 3 from rfl] at hx217_4); (try rw [show 3 * 7 = 21 from rfl] at hx217_4); (try rw [show ((3 : Int)).toNat = 3 from rfl] at hx217_5); (try rw [show 3 * 7 = 21 from rfl] at hx217_5); (try rw [show ((3 : Int)).toNat = 3 from rfl] at hx217_6); (try rw [show 3 * 7 = 21 from rfl] at hx217_6); replace p217 := eq_true p217; replace q217 := eq_true q217) | (go_at_call 15; (with_reducible refine (diff3_Clean.calls _ _ t196 true _ ?side1 ?side2 A9.out).mono ?_); (case side1 => repeat (first | exact (Kd.R_reads' HO198.out).2.2 | (with_reducible refine Kd.C_alloc ?_ _) | (with_reducible refine Kd.C_drewN ?_ _) | (with_reducible refine Kd.C_drew ?_))); (case side2 => exact (Kd.R_reads' HO198.out).2.1); rintro e w41 ⟨rfl, hb⟩; have n0_ := Zm (Kd.R_below (by (with_reducible repeat (first | apply Kd.R_alloc | apply Kd.R_drewN | apply Kd.R_drew)); exact HO189.out) hb); have n1_ := Zm (Kd.R_below (by (with_reducible repeat (first | apply Kd.R_alloc | apply Kd.R_drewN | apply Kd.R_drew)); exact HO192.out) hb); have n2_ := Zm (Kd.R_below (by (with_reducible repeat (first | apply Kd.R_alloc | apply Kd.R_drewN | apply Kd.R_drew)); exact HO195.out) hb); have n3_ := Zm (Kd.R_below (by (with_reducible repeat (first | apply Kd.R_alloc | apply Kd.R_drewN | apply Kd.R_drew)); exact HO198.out) hb); have n4_ := Zm (Kd.R_below (by (with_reducible repeat (first | apply Kd.R_alloc | apply Kd.R_drewN | apply Kd.R_drew)); exact HO202.out) hb); have n5_ := Zm (Kd.R_below (by (with_reducible repeat (first | apply Kd.R_alloc | apply Kd.R_drewN | apply Kd.R_drew)); exact HO205.out) hb); have n6_ := Zm (Kd.R_below (by (with_reducible repeat (first | apply Kd.R_alloc | apply Kd.R_drewN | apply Kd.R_drew)); exact HO208.out) hb); have n7_ := Zm (Kd.R_below (by (with_reducible repeat (first | apply Kd.R_alloc | apply Kd.R_drewN | apply Kd.R_drew)); exact HO211.out) hb); have n8_ := Zm (Kd.R_below (by (with_reducible repeat (first | apply Kd.R_alloc | apply Kd.R_drewN | apply Kd.R_drew)); exact HO215.out) hb); have n9_ := Zm (below_step (by repeat (first | (with_reducible first | exact HB.out | apply below_alloc | apply Zd | apply below_drew1) | exact HB.out)) hb); clear HO189; clear HO192; clear HO195; clear HO198; clear HO202; clear HO205; clear HO208; clear HO211; clear HO215; clear HB; have HO189 := n0_; have HO192 := n1_; have HO195 := n2_; have HO198 := n3_; have HO202 := n4_; have HO205 := n5_; have HO208 := n6_; have HO211 := n7_; have HO215 := n8_; have HB := n9_; clear n0_ n1_ n2_ n3_ n4_ n5_ n6_ n7_ n8_ n9_; (try clear hb); (try clear hb2); (try clear hk); (try clear hi)) | ((with_reducible refine gate_dst (N := 56) rfl ?_); (try (refine gate_guard (by rfl) ?_; dsimp only)); refine Kd.R_lit (Kd.int .i64) _ 3 ?hg (N := 56) ?hd (xs := ([1, 4, 3, 5] : List Int)) (inner := [.int .i64 1, .int .i64 4, .int .i64 3, .int .i64 5]) (ok := fun _ => True) (okp := fun _ => True) ?hr ?hp (fun _ hk => hk) trivial (Below.refl _ _) (Nat.le_refl _) (by simp) ?_; (case hd => rfl); (case hg => rfl); (case hr => first | (go_simp; done) | (go_simp; rfl)); (case hp => exact (Reps.one (show Kd.M (Kd.int .i64) _ _ _ 1 [.int .i64 1] from rfl) (Reps.one (show Kd.M (Kd.int .i64) _ _ _ 4 [.int .i64 4] from rfl) (Reps.one (show Kd.M (Kd.int .i64) _ _ _ 3 [.int .i64 3] from rfl) (Reps.one (show Kd.M (Kd.int .i64) _ _ _ 5 [.int .i64 5] from rfl) (Reps.none _ _)))))); intro v220 w42 ho43 hb hg_ hnew_; clear hg_ hnew_; (first | rw [← Ny219.out] at ho43 | (simp only [Int.reduceToNat] at ho43; rw [← Ny219.out] at ho43)); have n0_ := Zm (Kd.R_elder' (by (with_reducible repeat (first | apply Kd.R_alloc | apply Kd.R_drewN | apply Kd.R_drew)); exact HO189.out) (Kd.R_base ho43) hb); have n1_ := Zm (Kd.R_elder' (by (with_reducible repeat (first | apply Kd.R_alloc | apply Kd.R_drewN | apply Kd.R_drew)); exact HO192.out) (Kd.R_base ho43) hb); have n2_ := Zm (Kd.R_elder' (by (with_reducible repeat (first | apply Kd.R_alloc | apply Kd.R_drewN | apply Kd.R_drew)); exact HO195.out) (Kd.R_base ho43) hb); have n3_ := Zm (Kd.R_below (by (with_reducible repeat (first | apply Kd.R_alloc | apply Kd.R_drewN | apply Kd.R_drew)); exact HO198.out) hb); have n4_ := Zm (Kd.R_elder' (by (with_reducible repeat (first | apply Kd.R_alloc | apply Kd.R_drewN | apply Kd.R_drew)); exact HO202.out) (Kd.R_base ho43) hb); have n5_ := Zm (Kd.R_below (by (with_reducible repeat (first | apply Kd.R_alloc | apply Kd.R_drewN | apply Kd.R_drew)); exact HO205.out) hb); have n6_ := Zm (Kd.R_below (by (with_reducible repeat (first | apply Kd.R_alloc | apply Kd.R_drewN | apply Kd.R_drew)); exact HO208.out) hb); have n7_ := Zm (Kd.R_below (by (with_reducible repeat (first | apply Kd.R_alloc | apply Kd.R_drewN | apply Kd.R_drew)); exact HO211.out) hb); have n8_ := Zm (Kd.R_below (by (with_reducible repeat (first | apply Kd.R_alloc | apply Kd.R_drewN | apply Kd.R_drew)); exact HO215.out) hb); have n9_ := Zm (Kd.R_lower (Kd.R_new' (Kd.R_new' (Kd.R_new' (Kd.R_new' ho43 (Kd.R_lt (by (with_reducible repeat (first | apply Kd.R_alloc | apply Kd.R_drewN | apply Kd.R_drew)); exact HO189.out))) (Kd.R_lt (by (with_reducible repeat (first | apply Kd.R_alloc | apply Kd.R_drewN | apply Kd.R_drew)); exact HO192.out))) (Kd.R_lt (by (with_reducible repeat (first | apply Kd.R_alloc | apply Kd.R_drewN | apply Kd.R_drew)); exact HO195.out))) (Kd.R_lt (by (with_reducible repeat (first | apply Kd.R_alloc | apply Kd.R_drewN | apply Kd.R_drew)); exact HO202.out))) (below_size (by repeat (first | (with_reducible first | exact HB.out | apply below_alloc | apply Zd | apply below_drew1) | exact HB.out)))); have n10_ := Zm (below_step (by repeat (first | (with_reducible first | exact HB.out | apply below_alloc | apply Zd | apply below_drew1) | exact HB.out)) hb); clear HO189; clear HO192; clear HO195; clear HO198; clear HO202; clear HO205; clear HO208; clear HO211; clear HO215; clear HB; have HO189 := n0_; have HO192 := n1_; have HO195 := n2_; have HO198 := n3_; have HO202 := n4_; have HO205 := n5_; have HO208 := n6_; have HO211 := n7_; have HO215 := n8_; have HO221 := n9_; have HB := n10_; clear n0_ n1_ n2_ n3_ n4_ n5_ n6_ n7_ n8_ n9_ n10_; clear hb ho43; obtain ⟨Ao44, co44, eo44⟩ := Kd.R_slice HO202.out; subst eo44; obtain ⟨Ao45, co45, eo45⟩ := Kd.R_slice HO221.out; subst eo45) | (go_at_call 17; (with_reducible refine (r05_Same.calls k _ _ t199 _ _ y219 true _ ?side1 ?side2 ?side3 ?side4 A12.out).mono ?_); (case side1 => repeat (first | exact (Kd.R_reads' HO202.out).2.2 | (with_reducible refine Kd.C_alloc ?_ _) | (with_reducible refine Kd.C_drewN ?_ _) | (with_reducible refine Kd.C_drew ?_))); (case side2 => exact (Kd.R_reads' HO202.out).2.1); (case side3 => repeat (first | exact (Kd.R_reads' HO221.out).2.2 | (with_reducible refine Kd.C_alloc ?_ _) | (with_reducible refine Kd.C_drewN ?_ _) | (with_reducible refine Kd.C_drew ?_))); (case side4 => exact (Kd.R_reads' HO221.out).2.1); rintro e w' ⟨rfl, ⟨nd, rfl⟩⟩; obtain ⟨Ao46, co46, eo46⟩ := Kd.R_slice HO215.out; subst eo46; have p223 : 0 ≤ (0 : Int) := (by omega); have q223 : 0 < (t212.length : Int) := Zo (by first | (with_reducible assumption) | assumption); obtain ⟨ad223, e223, hx223_0⟩ := Kd.at_string (Kd.R_reads' HO215.out).2.2 0 p223 q223; cases e223; have qi223 : (0 < t212.length) = True := eq_true (by omega); (try rw [show ((0 : Int)).toNat = 0 from rfl] at hx223_0); (try rw [Addr.add_zero'] at hx223_0); replace p223 := eq_true p223; replace q223 := eq_true q223) | ((with_reducible refine gate_dst (N := 74) rfl ?_); (try (refine gate_guard (by rfl) ?_; dsimp only)); refine Kd.R_lit Kd.string _ 9 ?hg (N := 74) ?hd (xs := ([(⟨#[97]⟩ : ByteArray)] : List ByteArray)) (inner := [.string (⟨#[97]⟩ : ByteArray)]) (ok := fun _ => True) (okp := fun _ => True) ?hr ?hp (fun _ hk => hk) trivial (Below.refl _ _) (Nat.le_refl _) (by simp) ?_; (case hd => rfl); (case hg => rfl); (case hr => first | (go_simp; done) | (go_simp; rfl)); (case hp => exact (Reps.one (show Kd.M Kd.string _ _ _ (⟨#[97]⟩ : ByteArray) [.string (⟨#[97]⟩ : ByteArray)] from rfl) (Reps.none _ _))); intro v225 w47 ho48 hb hg_ hnew_; clear hg_ hnew_; (first | rw [← Ny224.out] at ho48 | (simp only [Int.reduceToNat] at ho48; rw [← Ny224.out] at ho48)); have n0_ := Zm (Kd.R_below (by (with_reducible repeat (first | apply Kd.R_alloc | apply Kd.R_drewN | apply Kd.R_drew)); exact HO189.out) hb); have n1_ := Zm (Kd.R_below (by (with_reducible repeat (first | apply Kd.R_alloc | apply Kd.R_drewN | apply Kd.R_drew)); exact HO192.out) hb); have n2_ := Zm (Kd.R_below (by (with_reducible repeat (first | apply Kd.R_alloc | apply Kd.R_drewN | apply Kd.R_drew)); exact HO195.out) hb); have n3_ := Zm (Kd.R_below (by (with_reducible repeat (first | apply Kd.R_alloc | apply Kd.R_drewN | apply Kd.R_drew)); exact HO198.out) hb); have n4_ := Zm (Kd.R_below (by (with_reducible repeat (first | apply Kd.R_alloc | apply Kd.R_drewN | apply Kd.R_drew)); exact HO202.out) hb); have n5_ := Zm (Kd.R_elder' (by (with_reducible repeat (first | apply Kd.R_alloc | apply Kd.R_drewN | apply Kd.R_drew)); exact HO205.out) (Kd.R_base ho48) hb); have n6_ := Zm (Kd.R_elder' (by (with_reducible repeat (first | apply Kd.R_alloc | apply Kd.R_drewN | apply Kd.R_drew)); exact HO208.out) (Kd.R_base ho48) hb); have n7_ := Zm (Kd.R_elder' (by (with_reducible repeat (first | apply Kd.R_alloc | apply Kd.R_drewN | apply Kd.R_drew)); exact HO211.out) (Kd.R_base ho48) hb); have n8_ := Zm (Kd.R_elder' (by (with_reducible repeat (first | apply Kd.R_alloc | apply Kd.R_drewN | apply Kd.R_drew)); exact HO215.out) (Kd.R_base ho48) hb); have n9_ := Zm (Kd.R_below (by (with_reducible repeat (first | apply Kd.R_alloc | apply Kd.R_drewN | apply Kd.R_drew)); exact HO221.out) hb); have n10_ := Zm (Kd.R_lower (Kd.R_new' (Kd.R_new' (Kd.R_new' (Kd.R_new' ho48 (Kd.R_lt (by (with_reducible repeat (first | apply Kd.R_alloc | apply Kd.R_drewN | apply Kd.R_drew)); exact HO205.out))) (Kd.R_lt (by (with_reducible repeat (first | apply Kd.R_alloc | apply Kd.R_drewN | apply Kd.R_drew)); exact HO208.out))) (Kd.R_lt (by (with_reducible repeat (first | apply Kd.R_alloc | apply Kd.R_drewN | apply Kd.R_drew)); exact HO211.out))) (Kd.R_lt (by (with_reducible repeat (first | apply Kd.R_alloc | apply Kd.R_drewN | apply Kd.R_drew)); exact HO215.out))) (below_size (by repeat (first | (with_reducible first | exact HB.out | apply below_alloc | apply Zd | apply below_drew1) | exact HB.out)))); have n11_ := Zm (below_step (by repeat (first | (with_reducible first | exact HB.out | apply below_alloc | apply Zd | apply below_drew1) | exact HB.out)) hb); clear HO189; clear HO192; clear HO195; clear HO198; clear HO202; clear HO205; clear HO208; clear HO211; clear HO215; clear HO221; clear HB; have HO189 := n0_; have HO192 := n1_; have HO195 := n2_; have HO198 := n3_; have HO202 := n4_; have HO205 := n5_; have HO208 := n6_; have HO211 := n7_; have HO215 := n8_; have HO221 := n9_; have HO226 := n10_; have HB := n11_; clear n0_ n1_ n2_ n3_ n4_ n5_ n6_ n7_ n8_ n9_ n10_ n11_; clear hb ho48; obtain ⟨Ao49, co49, eo49⟩ := Kd.R_slice HO226.out; subst eo49) | (go_at_call 20; (refine (diff3_Parts.calls k (fun k_ => some k_ = (.slice Ao49 y224.length co49 : Value).ownBlock) _ _ y224 (fun k_ => False) _ _ ([] : List ByteArray) (fun k_ => False) _ _ ([] : List ByteArray) t227 _ ?side1 ?side2 ?side3 A18.out).mono ?_); (case side1 => exact Kd.R_V (Kd.R_tight rfl (Kd.R_apart' (Kd.R_apart' (Kd.R_apart' (Kd.R_apart' (Kd.R_apart' (Kd.R_apart' (HO226.out) (Kd.R_typed HO189.out) (by decide)) (Kd.R_typed HO192.out) (by decide)) (Kd.R_typed HO195.out) (by decide)) (Kd.R_typed HO198.out) (by decide)) (Kd.R_typed HO202.out) (by decide)) (Kd.R_typed HO221.out) (by decide)))); (case side2 => exact Kd.V_nil _ _ _ _ _); (case side3 => exact Kd.V_nil _ _ _ _ _); rintro e w50 ⟨v228, rfl, ho0, hb⟩; have n0_ := Zm (Kd.R_below (by (with_reducible repeat (first | apply Kd.R_alloc | apply Kd.R_drewN | apply Kd.R_drew)); exact HO189.out) hb); have n1_ := Zm (Kd.R_below (by (with_reducible repeat (first | apply Kd.R_alloc | apply Kd.R_drewN | apply Kd.R_drew)); exact HO192.out) hb); have n2_ := Zm (Kd.R_below (by (with_reducible repeat (first | apply Kd.R_alloc | apply Kd.R_drewN | apply Kd.R_drew)); exact HO195.out) hb); have n3_ := Zm (Kd.R_elder' (by (with_reducible repeat (first | apply Kd.R_alloc | apply Kd.R_drewN | apply Kd.R_drew)); exact HO198.out) (Kd.R_base ho0) hb); have n4_ := Zm (Kd.R_below (by (with_reducible repeat (first | apply Kd.R_alloc | apply Kd.R_drewN | apply Kd.R_drew)); exact HO202.out) hb); have n5_ := Zm (Kd.R_below (by (with_reducible repeat (first | apply Kd.R_alloc | apply Kd.R_drewN | apply Kd.R_drew)); exact HO205.out) hb); have n6_ := Zm (Kd.R_below (by (with_reducible repeat (first | apply Kd.R_alloc | apply Kd.R_drewN | apply Kd.R_drew)); exact HO208.out) hb); have n7_ := Zm (Kd.R_below (by (with_reducible repeat (first | apply Kd.R_alloc | apply Kd.R_drewN | apply Kd.R_drew)); exact HO211.out) hb); have n8_ := Zm (Kd.R_below (by (with_reducible repeat (first | apply Kd.R_alloc | apply Kd.R_drewN | apply Kd.R_drew)); exact HO215.out) hb); have n9_ := Zm (Kd.R_below (by (with_reducible repeat (first | apply Kd.R_alloc | apply Kd.R_drewN | apply Kd.R_drew)); exact HO221.out) hb); have n10_ := Zm (Kd.R_below (by (with_reducible repeat (first | apply Kd.R_alloc | apply Kd.R_drewN | apply Kd.R_drew)); exact HO226.out) hb); have n11_ := Zm (Kd.R_lower (Kd.R_new' (Kd.R_mono (ok' := fun k_ => True) ho0 (fun _ hk_ => trivial)) (Kd.R_lt (by (with_reducible repeat (first | apply Kd.R_alloc | apply Kd.R_drewN | apply Kd.R_drew)); exact HO198.out))) (below_size (by repeat (first | (with_reducible first | exact HB.out | apply below_alloc | apply Zd | apply below_drew1) | exact HB.out)))); have n12_ := Zm (below_step (by repeat (first | (with_reducible first | exact HB.out | apply below_alloc | apply Zd | apply below_drew1) | exact HB.out)) hb); clear HO189; clear HO192; clear HO195; clear HO198; clear HO202; clear HO205; clear HO208; clear HO211; clear HO215; clear HO221; clear HO226; clear HB; have HO189 := n0_; have HO192 := n1_; have HO195 := n2_; have HO198 := n3_; have HO202 := n4_; have HO205 := n5_; have HO208 := n6_; have HO211 := n7_; have HO215 := n8_; have HO221 := n9_; have HO226 := n10_; have HO229 := n11_; have HB := n12_; clear n0_ n1_ n2_ n3_ n4_ n5_ n6_ n7_ n8_ n9_ n10_ n11_ n12_; (try clear hb); (try clear hb2); (try clear hk); (try clear hi); (try clear ho0); obtain ⟨Ao51, co51, eo51⟩ := Kd.R_slice HO229.out; subst eo51))
             go_ret
             exact ⟨by first | rfl | (simp [errW_none, errW_some] <;> rfl) | (simp [*, errW_none, errW_some] <;> rfl), by repeat (first | (with_reducible first | exact HB.out | apply below_alloc | apply Zd | apply below_drew1) | exact HB.out)⟩
            ·rw [if_neg c17] at H
             exact absurd H (by simp)
           ·rw [if_neg c16] at H
            exact absurd H (by simp)
          ·rw [if_neg c15] at H
           exact absurd H (by simp)
         ·replace c14 := Bool.eq_false_iff.mpr c14
          subst c14
          have H1 : (none) = some r := by rw [if_neg (show ¬ (false = true) by decide)] at H; exact H
          clear H
          have H := H1
          clear H1
          exact absurd H (by simp)
        ·replace c13 := Bool.eq_false_iff.mpr c13
         subst c13
         have H1 : (none) = some r := by rw [if_neg (show ¬ (false = true) by decide)] at H; exact H
         clear H
         have H := H1
         clear H1
         exact absurd H (by simp)
       ·replace c11 := Bool.eq_false_iff.mpr c11
        subst c11
        have H1 : (none) = some r := by rw [if_neg (show ¬ (false = true) by decide)] at H; exact H
        clear H
        have H := H1
        clear H1
        exact absurd H (by simp)
      ·replace c10 := Bool.eq_false_iff.mpr c10
       subst c10
       have H1 : (none) = some r := by rw [if_neg (show ¬ (false = true) by decide)] at H; exact H
       clear H
       have H := H1
       clear H1
       exact absurd H (by simp)
     ·rw [if_neg c8] at H
      exact absurd H (by simp)
    ·rw [if_neg c7] at H
     exact absurd H (by simp)
   ·rw [if_neg c6] at H
    exact absurd H (by simp)
  ·rw [if_neg c5] at H
   exact absurd H (by simp)
 ·rw [if_neg c4] at H
  exact absurd H (by simp)
/-! ### l07_few: function 9 -/
def l07_few.f (l0 : List Int) (l1 : List Int) (l2 : List Int) : Option (Bool) := if (l0.length : Int) ≤ 200 then (if (l1.length : Int) ≤ 200 then (some (decide ((l2.length : Int) ≤ 200))) else (some false)) else (some false)
set_option maxHeartbeats 8000000 in
set_option maxRecDepth 100000 in
theorem l07_few.calls (A0 : Option Addr) (c0 : Nat) (l0 : List Int) (A1 : Option Addr) (c1 : Nat) (l1 : List Int) (A2 : Option Addr) (c2 : Nat) (l2 : List Int) (r : Bool) (w : World) (hr0 : Kd.C (Kd.int .i64) w A0 l0.length l0) (hc0 : l0.length ≤ c0) (hr1 : Kd.C (Kd.int .i64) w A1 l1.length l1) (hc1 : l1.length ≤ c1) (hr2 : Kd.C (Kd.int .i64) w A2 l2.length l2) (hc2 : l2.length ≤ c2) (h : l07_few.f l0 l1 l2 = some r) :
  Calls Try.prog 9 #[.slice A0 l0.length c0, .slice A1 l1.length c1, .slice A2 l2.length c2] w fun e w' => e = .returned (.bool r) ∧ Drawn0 w w' := by
 have HR0 := Zm hr0
 have HC0 := Zm hc0
 clear hr0 hc0
 have HR1 := Zm hr1
 have HC1 := Zm hc1
 clear hr1 hc1
 have HR2 := Zm hr2
 have HC2 := Zm hc2
 clear hr2 hc2
 have H : (if (l0.length : Int) ≤ 200 then (if (l1.length : Int) ≤ 200 then (some (decide ((l2.length : Int) ≤ 200))) else (some false)) else (some false)) = some r := h
 clear h
 by_cases c4 : (l0.length : Int) ≤ 200
 ·rw [if_pos c4] at H
  have c4b0 : decide ((l0.length : Int) ≤ 200) = true := decide_eq_true c4
  have c4b1 : decide (l0.length ≤ 200) = true := decide_eq_true (by omega)
  clear c4
  by_cases c5 : (l1.length : Int) ≤ 200
  ·rw [if_pos c5] at H
   have c5b0 : decide ((l1.length : Int) ≤ 200) = true := decide_eq_true c5
   have c5b1 : decide (l1.length ≤ 200) = true := decide_eq_true (by omega)
   clear c5
   obtain rfl := Option.some.inj H
   go_enter Try.func9, Try.ntmps9
   go_wp2
   go_ret
   exact ⟨by first | rfl | (simp; done) | (simp [*]; done), by repeat (first | exact Drawn0.refl _ | apply Drawn0.step)⟩
  ·rw [if_neg c5] at H
   have c5b0 : decide ((l1.length : Int) ≤ 200) = false := decide_eq_false c5
   have c5b1 : decide (l1.length ≤ 200) = false := decide_eq_false (by omega)
   clear c5
   obtain rfl := Option.some.inj H
   go_enter Try.func9, Try.ntmps9
   go_wp2
   go_ret
   exact ⟨by first | rfl | (simp; done) | (simp [*]; done), by repeat (first | exact Drawn0.refl _ | apply Drawn0.step)⟩
 ·rw [if_neg c4] at H
  have c4b0 : decide ((l0.length : Int) ≤ 200) = false := decide_eq_false c4
  have c4b1 : decide (l0.length ≤ 200) = false := decide_eq_false (by omega)
  clear c4
  obtain rfl := Option.some.inj H
  go_enter Try.func9, Try.ntmps9
  go_wp2
  go_ret
  exact ⟨by first | rfl | (simp; done) | (simp [*]; done), by repeat (first | exact Drawn0.refl _ | apply Drawn0.step)⟩
end Go.Proofs.Yteafndooaokagaa.PDiff
