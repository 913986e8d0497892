/- Laid by a program of this session out of the seat's translation. -/
import Derived.Test.YtjbgdoapbehopaaPLcsNumbersx0
import Derived.Test.YtjbgdoapbehopaaPLcsNumbersx1
import Derived.Test.YtjbgdoapbehopaaPLcsNumbersx5
import Derived.Test.YtjbgdoapbehopaaPLcsNumbersx6
import Derived.Test.YtjbgdoapbehopaaPLcsNumbersx8
namespace Go.Proofs.Ytjbgdoapbehopaa.PLcsNumbers
open Go.RowKit Go.Proofs.YtjbgdoapbehopaaW.PrintWords Go.Proofs.YtjbgdoapbehopaaW.PrintLast Go.Proofs.YtjbgdoapbehopaaW.PrintMore
attribute [local go_sem] max2_int min2_int max_two min_two max_three min_three max_four min_four   -- for this text's walks alone
set_option linter.unusedVariables false
set_option linter.unusedSimpArgs false

/-! ### r05_Texts: function 19 -/
def r05_Texts.f (k : Nat) (l0 : List ByteArray) (l1 : List ByteArray) : Option (List Int) := (r05_Numbers.f k (([l0, l1] : List (List ByteArray)))).bind fun t303 => (if 0 < (t303.length : Int) then (if 1 < (t303.length : Int) then ((r05_Match.f k (rd_L6 t303 0) (rd_L6 t303 1)).bind fun t308 => (some t308)) else (none)) else (none))
theorem r05_Texts.mono : ∀ a0 a1 k, LeO (r05_Texts.f k a0 a1) (r05_Texts.f (k + 1) a0 a1) := by
  intro a0 a1 k
  unfold r05_Texts.f
  repeat' first
      | (with_reducible exact r05_Match.mono _ _ _)
      | (with_reducible exact r05_Numbers.mono _ _)
      | (with_reducible exact LeO.refl _)
      | (with_reducible exact LeO.none _)
      | (with_reducible refine LeO.ite ?_ ?_)
      | (with_reducible refine LeO.bind ?_ (fun _ => ?_))
      | exact r05_Match.mono _ _ _
      | exact r05_Numbers.mono _ _
      | exact LeO.none _
      | refine LeO.ite ?_ ?_
      | refine LeO.bind ?_ (fun _ => ?_)
def r05_Texts.T2 : Bool × List (List Nat × List Nat) := (true, [([], []), ([0], [0]), ([1], [1]), ([], []), ([3], [3]), ([4], [4]), ([2, 5], [2, 5]), ([6, 6, 0, 1, 2, 3, 4, 5, 6], [6])])
def r05_Texts.B2 : List Nat := [0, 1, 3, 0, 8, 24, 63, 127]
theorem r05_Texts.tab2 : rtab .any (opsOf Try.f19 2) = r05_Texts.T2 := by kernel_rfl
theorem r05_Texts.bits2 : waitsOk r05_Texts.T2.2 r05_Texts.B2 = true := by kernel_rfl
set_option maxHeartbeats 8000000 in
set_option maxRecDepth 100000 in
theorem r05_Texts.calls (k : Nat) (P0_ : Nat → Prop) (A0 : Option Addr) (c0 : Nat) (l0 : List ByteArray) (P1_ : Nat → Prop) (A1 : Option Addr) (c1 : Nat) (l1 : List ByteArray) (r : List Int) (w : World) (hs0 : Kd.V Kd.string 9 w w.heap.size (fun k_ => P0_ k_) (.slice A0 l0.length c0) l0) (hs1 : Kd.V Kd.string 9 w w.heap.size (fun k_ => P1_ k_) (.slice A1 l1.length c1) l1) (h : r05_Texts.f k l0 l1 = some r) :
    Calls Try.prog 19 #[.slice A0 l0.length c0, .slice A1 l1.length c1] w fun e w' => ∃ v0_ : Value, e = .returned (v0_) ∧ Kd.R (Kd.int .i64) 3 w' w.heap.size (fun k_ => (w.heap.size ≤ k_)) v0_ r ∧ Below w.heap.size w w' := by
  have HO0 := Zm (show Kd.V Kd.string 9 w w.heap.size (fun k_ => ((P0_ k_ ∨ P1_ k_) ∨ w.heap.size ≤ k_)) (.slice A0 l0.length c0) l0 from Kd.V_mono hs0 (fun k_ hk => .inl (.inl hk)))
  have HO1 := Zm (show Kd.V Kd.string 9 w w.heap.size (fun k_ => ((P0_ k_ ∨ P1_ k_) ∨ w.heap.size ≤ k_)) (.slice A1 l1.length c1) l1 from Kd.V_mono hs1 (fun k_ hk => .inl (.inr hk)))
  have HB := Zm (Below.refl w.heap.size w)
  have H : ((r05_Numbers.f k (([l0, l1] : List (List ByteArray)))).bind fun t303 => (if 0 < (t303.length : Int) then (if 1 < (t303.length : Int) then ((r05_Match.f k (rd_L6 t303 0) (rd_L6 t303 1)).bind fun t308 => (some t308)) else (none)) else (none))) = some r := h
  clear h
  obtain ⟨y300, hy300⟩ : ∃ y_ : List (List ByteArray), y_ = (([l0, l1] : List (List ByteArray))) := ⟨_, rfl⟩
  replace H : ((r05_Numbers.f k y300).bind fun t303 => (if 0 < (t303.length : Int) then (if 1 < (t303.length : Int) then ((r05_Match.f k (rd_L6 t303 0) (rd_L6 t303 1)).bind fun t308 => (some t308)) else (none)) else (none))) = some r := by first | (rw [hy300]; with_reducible exact H) | (have H2_ := (Option.bind_some _ _).symm.trans H; rw [hy300]; with_reducible exact H2_) | (have H2_ := (Option.bind_some _ _).symm.trans H; with_reducible exact H2_) | with_reducible exact H | (rw [hy300]; exact H) | exact H
  have Ny300 := Zm hy300
  clear hy300
  replace H := Option.bind_eq_some_iff.mp H
  obtain ⟨t303, A30, H⟩ := H
  replace H : (if 0 < (t303.length : Int) then (if 1 < (t303.length : Int) then ((r05_Match.f k (rd_L6 t303 0) (rd_L6 t303 1)).bind fun t308 => (some t308)) else (none)) else (none)) = some r := H
  have A3 := Zm A30
  clear A30
  by_cases c4 : 0 < (t303.length : Int)
  · rw [if_pos c4] at H
    have c4b0 : decide (0 < (t303.length : Int)) = true := decide_eq_true c4
    have c4b1 : decide (0 < t303.length) = true := decide_eq_true (by omega)
    clear c4
    by_cases c5 : 1 < (t303.length : Int)
    · rw [if_pos c5] at H
      have c5b0 : decide (1 < (t303.length : Int)) = true := decide_eq_true c5
      have c5b1 : decide (1 < t303.length) = true := decide_eq_true (by omega)
      clear c5
      replace H := Option.bind_eq_some_iff.mp H
      obtain ⟨t308, A60, H⟩ := H
      replace H : (some t308) = some r := H
      have A6 := Zm A60
      clear A60
      obtain rfl := Option.some.inj H
      go_enter Try.func19, Try.ntmps19
      try go_wp2_with (first | ((with_reducible refine gate_dst (N := 8) rfl ?_); refine Kd.N_lit (Kd.slice 9 Kd.string) _ 27 ?hg (N' := 8) ?hd (xs := ([l0, l1] : List (List ByteArray))) (inner := [.slice A0 l0.length c0, .slice A1 l1.length c1]) (ok := (fun k_ => ((P0_ k_ ∨ P1_ k_) ∨ w.heap.size ≤ k_))) (okp := (fun k_ => ((P0_ k_ ∨ P1_ k_) ∨ w.heap.size ≤ k_))) ?hr ?hp (fun _ hk => hk) ((show ∀ k_, w.heap.size ≤ k_ → (fun k_ => ((P0_ k_ ∨ P1_ k_) ∨ w.heap.size ≤ k_)) k_ from fun k_ hk => (.inr (Nat.le_trans (below_size (by repeat (first | (with_reducible first | exact HB.out | apply below_alloc | apply Zd | apply below_drew1) | exact HB.out))) hk))) _ (Nat.le_refl _)) (Below.refl _ _) (Nat.le_refl _) (by simp) ?_; (case hd => rfl); (case hg => rfl); (case hr => first | (go_simp; done) | (go_simp; rfl)); (case hp => exact (Reps.one (show Kd.FK (Kd.slice 9 Kd.string) _ _ l0 [.slice A0 l0.length c0] from (Kd.FK_slice_mk (Kd.V_reads' (Kd.V_mono (ok' := (fun k_ => ((P0_ k_ ∨ P1_ k_) ∨ w.heap.size ≤ k_))) (HO0.out) (fun k_ hk => hk))).2.1 (Kd.V_F (Kd.V_mono (ok' := (fun k_ => ((P0_ k_ ∨ P1_ k_) ∨ w.heap.size ≤ k_))) (HO0.out) (fun k_ hk => hk))))) (Reps.one (show Kd.FK (Kd.slice 9 Kd.string) _ _ l1 [.slice A1 l1.length c1] from (Kd.FK_slice_mk (Kd.V_reads' (Kd.V_mono (ok' := (fun k_ => ((P0_ k_ ∨ P1_ k_) ∨ w.heap.size ≤ k_))) (HO1.out) (fun k_ hk => hk))).2.1 (Kd.V_F (Kd.V_mono (ok' := (fun k_ => ((P0_ k_ ∨ P1_ k_) ∨ w.heap.size ≤ k_))) (HO1.out) (fun k_ hk => hk))))) (Reps.none _ _)))); intro v301 w7 ho8 hb hg_ hnew_; clear hg_ hnew_; (first | rw [← Ny300.out] at ho8 | (simp only [Int.reduceToNat] at ho8; rw [← Ny300.out] at ho8)); have n0_ := Zm (Kd.V_elder' (by (with_reducible repeat (first | apply Kd.V_alloc | apply Kd.V_drewN | apply Kd.V_drew)); exact HO0.out) (by first | exact Kd.N_base ho8 | exact Kd.S_base ho8 | exact Kd.R_base ho8) hb); have n1_ := Zm (Kd.V_elder' (by (with_reducible repeat (first | apply Kd.V_alloc | apply Kd.V_drewN | apply Kd.V_drew)); exact HO1.out) (by first | exact Kd.N_base ho8 | exact Kd.S_base ho8 | exact Kd.R_base ho8) hb); have n2_ := Zm (Kd.N_lower ho8 (below_size (by repeat (first | (with_reducible first | exact HB.out | apply below_alloc | apply Zd | apply below_drew1) | exact HB.out)))); have n3_ := Zm (below_step (by repeat (first | (with_reducible first | exact HB.out | apply below_alloc | apply Zd | apply below_drew1) | exact HB.out)) hb); clear HO0; clear HO1; clear HB; have HO0 := n0_; have HO1 := n1_; have HO302 := n2_; have HB := n3_; clear n0_ n1_ n2_ n3_; clear hb ho8; obtain ⟨Ao9, co9, eo9⟩ := Kd.N_slice HO302.out; subst eo9) | ((with_reducible refine gate_callee (f := 17) rfl ?_); refine goesL_ (some 9) rfl rfl Try.func17 (by kernel_rfl) rfl #[.slice Ao9 y300.length co9] rfl (by (try simp only [List.map_toArray, List.map_cons, List.map_nil]); first | done | rfl | (simp only [List.length_drop, List.length_take]; rfl)) ?_; (with_reducible refine (r05_Numbers.calls k _ _ y300 t303 _ ?side1 ?side2 A3.out).mono ?_); (case side1 => repeat (first | exact (Kd.N_reads' HO302.out).2.2 | (with_reducible refine Kd.C_alloc ?_ _) | (with_reducible refine Kd.C_drewN ?_ _) | (with_reducible refine Kd.C_drew ?_))); (case side2 => exact (Kd.N_reads' HO302.out).2.1); rintro e w10 ⟨v304, rfl, ho0, hb⟩; refine ⟨_, rfl, ?_⟩; have n0_ := Zm (Kd.V_elder' (by (with_reducible repeat (first | apply Kd.V_alloc | apply Kd.V_drewN | apply Kd.V_drew)); exact HO0.out) (by first | exact Kd.N_base ho0 | exact Kd.S_base ho0 | exact Kd.R_base ho0) hb); have n1_ := Zm (Kd.V_elder' (by (with_reducible repeat (first | apply Kd.V_alloc | apply Kd.V_drewN | apply Kd.V_drew)); exact HO1.out) (by first | exact Kd.N_base ho0 | exact Kd.S_base ho0 | exact Kd.R_base ho0) hb); have n2_ := Zm (Kd.N_elder' (by (with_reducible repeat (first | apply Kd.N_alloc | apply Kd.N_drewN | apply Kd.N_drew)); exact HO302.out) (by first | exact Kd.N_base ho0 | exact Kd.S_base ho0 | exact Kd.R_base ho0) hb); have n3_ := Zm (Kd.N_lower (Kd.N_mono (ok' := fun k_ => ((P0_ k_ ∨ P1_ k_) ∨ w.heap.size ≤ k_) ∧ some k_ ≠ (.slice Ao9 y300.length co9 : Value).ownBlock) (Kd.S_N (Kd.S_bound ho0)) (fun k_ hk_ => ⟨(.inr (Nat.le_trans (below_size (by repeat (first | (with_reducible first | exact HB.out | apply below_alloc | apply Zd | apply below_drew1) | exact HB.out))) hk_.2.1)), (Kd.fresh' (Kd.N_lt (by (with_reducible repeat (first | apply Kd.N_alloc | apply Kd.N_drewN | apply Kd.N_drew)); exact HO302.out)) k_ hk_.2.1)⟩)) (below_size (by repeat (first | (with_reducible first | exact HB.out | apply below_alloc | apply Zd | apply below_drew1) | exact HB.out)))); have n4_ := Zm (below_step (by repeat (first | (with_reducible first | exact HB.out | apply below_alloc | apply Zd | apply below_drew1) | exact HB.out)) hb); clear HO0; clear HO1; clear HO302; clear HB; have HO0 := n0_; have HO1 := n1_; have HO302 := n2_; have HO305 := n3_; have HB := n4_; clear n0_ n1_ n2_ n3_ n4_; (try clear hb); (try clear hb2); (try clear hk); (try clear hi); (try clear ho0)))
      have n0_ := Zm (Kd.V_drew HO0.out)
      have n1_ := Zm (Kd.V_drew HO1.out)
      have n2_ := Zm (Kd.N_drew HO302.out)
      have n3_ := Zm (Kd.N_drew HO305.out)
      have n4_ := Zm (below_drew1 HB.out)
      clear HO0
      clear HO1
      clear HO302
      clear HO305
      clear HB
      have HO0 := n0_
      have HO1 := n1_
      have HO302 := n2_
      have HO305 := n3_
      have HB := n4_
      clear n0_ n1_ n2_ n3_ n4_
      obtain ⟨Ao12, co12, eo12⟩ := Kd.N_slice HO305.out
      (first | subst eo12 | (injection eo12 with f1_ f2_ f3_; have f4_ := f1_.symm; have f5_ := f3_.symm; clear f1_ f2_ f3_; subst f4_; subst f5_))
      have p306 : 0 ≤ (0 : Int) := (by omega)
      have q306 : 0 < (t303.length : Int) := Zo (by first | (with_reducible assumption) | assumption)
      obtain ⟨ad306, A306_0, c306_0, e306, hx306_0, hl306_0, hi306_0⟩ := at_L6 (Kd.N_reads' HO305.out).2.2 0 p306 q306
      cases e306
      obtain ⟨ce306, hce306, hMe306, hcc306⟩ := Kd.N_get HO305.out [] 0 p306 (by first | exact q306 | exact Zo (by first | (with_reducible assumption) | assumption) | (have e_ := (Kd.N_reads' HO305.out).1; omega))
      obtain ⟨ua306_0, uc306_0, rfl, ul306_0, ge306_0⟩ := Kd.FK_slice_open hMe306
      have hv306_0 := hcc306 0 _ rfl
      rw [Nat.add_zero, show ((Kd.slice 3 (Kd.int .i64))).sz = 1 from rfl, Nat.mul_one] at hv306_0
      replace hv306_0 := Option.some.inj (hv306_0.symm.trans hx306_0)
      injection hv306_0 with hva_ hvn_ hvc_
      rw [hva_] at ge306_0
      rw [hvc_] at ul306_0
      have HL306_0 := Zm (show Kd.V (Kd.int .i64) 3 _ w.heap.size _ _ (rd_L6 t303 0) from Kd.V_mk ul306_0 ge306_0)
      clear hva_ hvn_ hvc_ ge306_0 ul306_0
      clear hcc306 hce306
      have qi306 : (0 < t303.length) = True := eq_true (by omega)
      (try rw [show ((0 : Int)).toNat = 0 from rfl] at hx306_0)
      (try rw [Addr.add_zero'] at hx306_0)
      have HR306_0 := Zm hi306_0
      have HC306_0 := Zm hl306_0
      clear hi306_0 hl306_0
      replace p306 := eq_true p306
      replace q306 := eq_true q306
      have p307 : 0 ≤ (1 : Int) := (by omega)
      have q307 : 1 < (t303.length : Int) := Zo (by first | (with_reducible assumption) | assumption)
      obtain ⟨ad307, A307_0, c307_0, e307, hx307_0, hl307_0, hi307_0⟩ := at_L6 (Kd.N_reads' HO305.out).2.2 1 p307 q307
      obtain rfl : ad306 = ad307 := (by injection e307)
      obtain ⟨ce307, hce307, hMe307, hcc307⟩ := Kd.N_get HO305.out [] 1 p307 (by first | exact q307 | exact Zo (by first | (with_reducible assumption) | assumption) | (have e_ := (Kd.N_reads' HO305.out).1; omega))
      obtain ⟨ua307_0, uc307_0, rfl, ul307_0, ge307_0⟩ := Kd.FK_slice_open hMe307
      have hv307_0 := hcc307 0 _ rfl
      rw [Nat.add_zero, show ((Kd.slice 3 (Kd.int .i64))).sz = 1 from rfl, Nat.mul_one] at hv307_0
      replace hv307_0 := Option.some.inj (hv307_0.symm.trans hx307_0)
      injection hv307_0 with hva_ hvn_ hvc_
      rw [hva_] at ge307_0
      rw [hvc_] at ul307_0
      have HL307_0 := Zm (show Kd.V (Kd.int .i64) 3 _ w.heap.size _ _ (rd_L6 t303 1) from Kd.V_mk ul307_0 ge307_0)
      clear hva_ hvn_ hvc_ ge307_0 ul307_0
      clear hcc307 hce307
      (try simp only [show (1 : Int).toNat = 1 from rfl, Nat.reduceMul, Nat.reduceEqDiff, Go.Addr.add, ↓reduceIte] at hx307_0)
      have qi307 : (1 < t303.length) = True := eq_true (by omega)
      (try rw [show ((1 : Int)).toNat = 1 from rfl] at hx307_0)
      have HR307_0 := Zm hi307_0
      have HC307_0 := Zm hl307_0
      clear hi307_0 hl307_0
      replace p307 := eq_true p307
      replace q307 := eq_true q307
      refine start_ (n := 8) (S := fun w' => w'.cell? ad306 = some (.slice A306_0 (rd_L6 t303 0).length c306_0) ∧ w'.cell? ⟨ad306.block, ad306.off + 1, none⟩ = some (.slice A307_0 (rd_L6 t303 1).length c307_0)) (ds := []) #[false, false, false, false, false, false, false, false] (by kernel_rfl) rfl rfl ⟨hx306_0, hx307_0⟩ (fun hHeld => ?_); refine with_tabW r05_Texts.tab2 r05_Texts.bits2 (fun HT_ HW_ => ?_)
      generalize w10.drew = w11 at HO0 HO1 HO302 HO305 HB HL306_0 HL307_0 HR306_0 HR307_0 hx306_0 hx307_0 hHeld ⊢
      refine pure_ (i := 0) (N := some 10) (v := ?_) (a' := ?_) #[true, false, false, false, false, false, false, false] rfl rfl (any_of HT_.out (by kernel_rfl)) (fun _ _ _ h => h) (Or.inl ⟨by rfl, ?_⟩) ?_ ?_
      rotate_left
      · intro w'
        go_simp
        with_reducible rfl
      rotate_left
      · simp only [Act.put, List.setIfInBounds_toArray, List.set_cons_zero, List.set_cons_succ, i64_w, i32_w]
        rfl
      refine pure_ (i := 1) (N := some 11) (v := ?_) (a' := ?_) #[true, true, false, false, false, false, false, false] rfl rfl (any_of HT_.out (by kernel_rfl)) (fun _ _ _ h => h) (Or.inl ⟨by rfl, ?_⟩) ?_ ?_
      rotate_left
      · intro w'
        go_simp
        with_reducible rfl
      rotate_left
      · simp only [Act.put, List.setIfInBounds_toArray, List.set_cons_zero, List.set_cons_succ, i64_w, i32_w]
        rfl
      refine pure_ (i := 3) (N := some 13) (v := ?_) (a' := ?_) #[true, true, false, true, false, false, false, false] rfl rfl (any_of HT_.out (by kernel_rfl)) (fun _ _ _ h => h) (Or.inl ⟨by rfl, ?_⟩) ?_ ?_
      rotate_left
      · intro w'
        go_simp
        with_reducible rfl
      rotate_left
      · simp only [Act.put, List.setIfInBounds_toArray, List.set_cons_zero, List.set_cons_succ, i64_w, i32_w]
        rfl
      refine pure_ (i := 4) (N := some 14) (v := ?_) (a' := ?_) #[true, true, false, true, true, false, false, false] rfl rfl (any_of HT_.out (by kernel_rfl)) (fun _ _ _ h => h) (Or.inl ⟨by rfl, ?_⟩) ?_ ?_
      rotate_left
      · intro w'
        go_simp
        with_reducible rfl
      rotate_left
      · simp only [Act.put, List.setIfInBounds_toArray, List.set_cons_zero, List.set_cons_succ, i64_w, i32_w]
        rfl
      refine take_ (i := 2) (N := some 12) (v := ?_) (a' := ?_) #[true, true, true, true, true, false, false, false] rfl rfl (take_ofW HT_.out HW_.out (by kernel_rfl)) (fun _ _ _ h => h) (Or.inl ⟨by rfl, ?_⟩) hHeld ?_ ?_
      rotate_left
      · rintro w' ⟨s0, s1⟩
        go_simp
        with_reducible rfl
      rotate_left
      · simp only [Act.put, List.setIfInBounds_toArray, List.set_cons_zero, List.set_cons_succ, i64_w, i32_w]
        rfl
      refine take_ (i := 5) (N := some 15) (v := ?_) (a' := ?_) #[true, true, true, true, true, true, false, false] rfl rfl (take_ofW HT_.out HW_.out (by kernel_rfl)) (fun _ _ _ h => h) (Or.inl ⟨by rfl, ?_⟩) hHeld ?_ ?_
      rotate_left
      · rintro w' ⟨s0, s1⟩
        go_simp
        with_reducible rfl
      rotate_left
      · simp only [Act.put, List.setIfInBounds_toArray, List.set_cons_zero, List.set_cons_succ, i64_w, i32_w]
        rfl
      refine one_ (i := 6) (N := some 16) #[true, true, true, true, true, true, true, false] rfl rfl (one_of HT_.out (by kernel_rfl)) (by decide) (fun K hK => ?_)
      refine goes_ Try.func11 (by kernel_rfl) rfl #[.slice A306_0 (rd_L6 t303 0).length c306_0, .slice A307_0 (rd_L6 t303 1).length c307_0] (by rfl) rfl rfl (by (try simp only [List.map_toArray, List.map_cons, List.map_nil]); first | done | rfl | (simp only [List.length_drop, List.length_take]; rfl)) ?_
      with_reducible refine (r05_Match.calls k _ _ (rd_L6 t303 0) _ _ (rd_L6 t303 1) t308 _ ?side1 ?side2 ?side3 ?side4 A6.out).mono ?_
      (case side1 => repeat (first | exact (by repeat (first | (with_reducible exact HR306_0.out) | (with_reducible refine Kd.C_alloc ?_ _) | (with_reducible refine Kd.C_drewN ?_ _) | (with_reducible refine Kd.C_drew ?_) | exact HR306_0.out)) | (with_reducible refine Kd.C_alloc ?_ _) | (with_reducible refine Kd.C_drewN ?_ _) | (with_reducible refine Kd.C_drew ?_)))
      (case side2 => exact HC306_0.out)
      (case side3 => repeat (first | exact (by repeat (first | (with_reducible exact HR307_0.out) | (with_reducible refine Kd.C_alloc ?_ _) | (with_reducible refine Kd.C_drewN ?_ _) | (with_reducible refine Kd.C_drew ?_) | exact HR307_0.out)) | (with_reducible refine Kd.C_alloc ?_ _) | (with_reducible refine Kd.C_drewN ?_ _) | (with_reducible refine Kd.C_drew ?_)))
      (case side4 => exact HC307_0.out)
      rintro e w13 ⟨v309, rfl, ho0, hb⟩
      have HS0_ := (hb.cell (World.block_lt_of_cell? _ _ (hHeld.1))).trans (hHeld.1)
      have HS1_ := (hb.cell (World.block_lt_of_cell? _ _ (hHeld.2))).trans (hHeld.2)
      refine ⟨_, rfl, ?_⟩
      have n0_ := Zm (Kd.V_elder' (by (with_reducible repeat (first | apply Kd.V_alloc | apply Kd.V_drewN | apply Kd.V_drew)); exact HO0.out) (Kd.R_base ho0) hb)
      have n1_ := Zm (Kd.V_elder' (by (with_reducible repeat (first | apply Kd.V_alloc | apply Kd.V_drewN | apply Kd.V_drew)); exact HO1.out) (Kd.R_base ho0) hb)
      have n2_ := Zm (Kd.N_elder' (by (with_reducible repeat (first | apply Kd.N_alloc | apply Kd.N_drewN | apply Kd.N_drew)); exact HO302.out) (Kd.R_base ho0) hb)
      have n3_ := Zm (Kd.N_elder' (by (with_reducible repeat (first | apply Kd.N_alloc | apply Kd.N_drewN | apply Kd.N_drew)); exact HO305.out) (Kd.R_base ho0) hb)
      have n4_ := Zm (Kd.V_elder' (by (with_reducible repeat (first | apply Kd.V_alloc | apply Kd.V_drewN | apply Kd.V_drew)); exact HL306_0.out) (Kd.R_base ho0) hb)
      have n5_ := Zm (Kd.V_elder' (by (with_reducible repeat (first | apply Kd.V_alloc | apply Kd.V_drewN | apply Kd.V_drew)); exact HL307_0.out) (Kd.R_base ho0) hb)
      have n6_ := Zm (Kd.R_lower (Kd.R_newM (M := fun k_ => (w.heap.size ≤ k_)) ho0 (below_size (by repeat (first | (with_reducible first | exact HB.out | apply below_alloc | apply Zd | apply below_drew1) | exact HB.out))) (fun k_ h_ => h_)) (below_size (by repeat (first | (with_reducible first | exact HB.out | apply below_alloc | apply Zd | apply below_drew1) | exact HB.out))))
      have n7_ := Zm (Kd.C_below (by repeat (first | (with_reducible exact HR306_0.out) | (with_reducible refine Kd.C_alloc ?_ _) | (with_reducible refine Kd.C_drewN ?_ _) | (with_reducible refine Kd.C_drew ?_) | exact HR306_0.out)) hb)
      have n8_ := Zm (Kd.C_below (by repeat (first | (with_reducible exact HR307_0.out) | (with_reducible refine Kd.C_alloc ?_ _) | (with_reducible refine Kd.C_drewN ?_ _) | (with_reducible refine Kd.C_drew ?_) | exact HR307_0.out)) hb)
      have n9_ := Zm (below_step (by repeat (first | (with_reducible first | exact HB.out | apply below_alloc | apply Zd | apply below_drew1) | exact HB.out)) hb)
      clear HO0
      clear HO1
      clear HO302
      clear HO305
      clear HL306_0
      clear HL307_0
      clear HR306_0
      clear HR307_0
      clear HB
      have HO0 := n0_
      have HO1 := n1_
      have HO302 := n2_
      have HO305 := n3_
      have HL306_0 := n4_
      have HL307_0 := n5_
      have HO310 := n6_
      have HR306_0 := n7_
      have HR307_0 := n8_
      have HB := n9_
      clear n0_ n1_ n2_ n3_ n4_ n5_ n6_ n7_ n8_ n9_
      (try clear hb)
      (try clear hb2)
      (try clear hk)
      (try clear hi)
      (try clear ho0)
      refine hK.out _ _ ⟨HS0_, HS1_⟩ (fun hHeld => ?_)
      clear hK K
      refine norm_ (a' := ?_) ?_ ?_
      rotate_left
      · show Act.put _ (some 16) _ = _
        simp only [Act.put, List.setIfInBounds_toArray, List.set_cons_zero, List.set_cons_succ, i64_w, i32_w]
        rfl
      refine pure_ (i := 7) (N := some 4) (v := ?_) (a' := ?_) #[true, true, true, true, true, true, true, true] rfl rfl (any_of HT_.out (by kernel_rfl)) (fun _ _ _ h => h) (Or.inl ⟨by rfl, ?_⟩) ?_ ?_
      rotate_left
      · intro w'
        go_simp
        with_reducible rfl
      rotate_left
      · simp only [Act.put, List.setIfInBounds_toArray, List.set_cons_zero, List.set_cons_succ, i64_w, i32_w]
        rfl
      refine done_ (done_of HT_.out (by kernel_rfl)) ?_
      try go_wp2
      go_ret
      exact ⟨_, by first | rfl | (simp [errW_none, errW_some] <;> rfl) | (simp [*, errW_none, errW_some] <;> rfl), by (with_reducible repeat (first | apply Kd.R_alloc | apply Kd.R_drewN | apply Kd.R_drew)); exact Kd.R_mono HO310.out (fun _ hk => hk.1), by repeat (first | (with_reducible first | exact HB.out | apply below_alloc | apply Zd | apply below_drew1) | exact HB.out)⟩
    · rw [if_neg c5] at H
      exact absurd H (by simp)
  · rw [if_neg c4] at H
    exact absurd H (by simp)

/-! ### l05_LcsNumbers: function 4 -/
mutual
def l05_LcsNumbers.j0 : Nat → List ByteArray → List ByteArray → List ByteArray → Bool → Option (Bool)
  | 0, _, _, _, _ => none
  | k + 1, x0, x1, x2, x26 => if x26 = true then (some true) else ((lcs_Numbers.f k (([x0, x1, x2] : List (List ByteArray)))).bind fun t315 => ((r05_Numbers.f k (([x0, x1, x2] : List (List ByteArray)))).bind fun t321 => (if (t315.length : Int) = 3 then (l05_LcsNumbers.l0 k x0 x1 t315 t321 0) else (none))))
def l05_LcsNumbers.l0 : Nat → List ByteArray → List ByteArray → List (List Int) → List (List Int) → Int → Option (Bool)
  | 0, _, _, _, _, _ => none
  | k + 1, x0, x1, x8, x9, x10 => if x10 < 3 then (if 0 ≤ x10 then (if x10 < (x8.length : Int) then (if x10 < (x9.length : Int) then ((r05_Same.f k (rd_L6 x8 x10) (rd_L6 x9 x10)).bind fun t326 => (if t326 = true then (l05_LcsNumbers.l0 k x0 x1 x8 x9 (wrap64 (x10 + 1))) else (none))) else (none)) else (none)) else (none)) else ((lcs_Texts.f k x0 x1).bind fun t327 => ((r05_Texts.f k x0 x1).bind fun t330 => ((r05_Same.f k t327 t330).bind fun t333 => (if t333 = true then ((lcs_Numbers.f k ([] : List (List ByteArray))).bind fun t334 => (some ((t334.length : Int) == 0))) else (none)))))
end
def l05_LcsNumbers.f (k : Nat) (l0 : List ByteArray) (l1 : List ByteArray) (l2 : List ByteArray) : Option (Bool) := (l05_awake.f k).bind fun t311 => (if t311 = true then (if (l0.length : Int) > 100 then (l05_LcsNumbers.j0 k l0 l1 l2 true) else (if (l1.length : Int) > 100 then (l05_LcsNumbers.j0 k l0 l1 l2 true) else (l05_LcsNumbers.j0 k l0 l1 l2 (decide ((l2.length : Int) > 100))))) else (none))
theorem l05_LcsNumbers.mono_l : ∀ k, (∀ y0 y1 y2 y3, LeO (l05_LcsNumbers.j0 k y0 y1 y2 y3) (l05_LcsNumbers.j0 (k + 1) y0 y1 y2 y3)) ∧ (∀ y0 y1 y2 y3 y4, LeO (l05_LcsNumbers.l0 k y0 y1 y2 y3 y4) (l05_LcsNumbers.l0 (k + 1) y0 y1 y2 y3 y4))
  | 0 => ⟨fun _ _ _ _ r h => by simp [l05_LcsNumbers.j0] at h, fun _ _ _ _ _ r h => by simp [l05_LcsNumbers.l0] at h⟩
  | k + 1 => by
    obtain ⟨ih0, ih1⟩ := l05_LcsNumbers.mono_l k
    refine ⟨?_, ?_⟩
    · intro y0 y1 y2 y3
      unfold l05_LcsNumbers.j0
      repeat' first
      | (with_reducible exact ih0 _ _ _ _)
      | (with_reducible exact ih1 _ _ _ _ _)
      | (with_reducible exact l05_awake.mono _)
      | (with_reducible exact r05_Numbers.mono _ _)
      | (with_reducible exact r05_Same.mono _ _ _)
      | (with_reducible exact r05_Texts.mono _ _ _)
      | (with_reducible exact lcs_Numbers.mono _ _)
      | (with_reducible exact lcs_Texts.mono _ _ _)
      | (with_reducible exact LeO.refl _)
      | (with_reducible exact LeO.none _)
      | (with_reducible refine LeO.ite ?_ ?_)
      | (with_reducible refine LeO.bind ?_ (fun _ => ?_))
      | exact ih0 _ _ _ _
      | exact ih1 _ _ _ _ _
      | exact l05_awake.mono _
      | exact r05_Numbers.mono _ _
      | exact r05_Same.mono _ _ _
      | exact r05_Texts.mono _ _ _
      | exact lcs_Numbers.mono _ _
      | exact lcs_Texts.mono _ _ _
      | exact LeO.none _
      | refine LeO.ite ?_ ?_
      | refine LeO.bind ?_ (fun _ => ?_)
    · intro y0 y1 y2 y3 y4
      unfold l05_LcsNumbers.l0
      repeat' first
      | (with_reducible exact ih0 _ _ _ _)
      | (with_reducible exact ih1 _ _ _ _ _)
      | (with_reducible exact l05_awake.mono _)
      | (with_reducible exact r05_Numbers.mono _ _)
      | (with_reducible exact r05_Same.mono _ _ _)
      | (with_reducible exact r05_Texts.mono _ _ _)
      | (with_reducible exact lcs_Numbers.mono _ _)
      | (with_reducible exact lcs_Texts.mono _ _ _)
      | (with_reducible exact LeO.refl _)
      | (with_reducible exact LeO.none _)
      | (with_reducible refine LeO.ite ?_ ?_)
      | (with_reducible refine LeO.bind ?_ (fun _ => ?_))
      | exact ih0 _ _ _ _
      | exact ih1 _ _ _ _ _
      | exact l05_awake.mono _
      | exact r05_Numbers.mono _ _
      | exact r05_Same.mono _ _ _
      | exact r05_Texts.mono _ _ _
      | exact lcs_Numbers.mono _ _
      | exact lcs_Texts.mono _ _ _
      | exact LeO.none _
      | refine LeO.ite ?_ ?_
      | refine LeO.bind ?_ (fun _ => ?_)
theorem l05_LcsNumbers.mono : ∀ a0 a1 a2 k, LeO (l05_LcsNumbers.f k a0 a1 a2) (l05_LcsNumbers.f (k + 1) a0 a1 a2) := by
  intro a0 a1 a2 k
  obtain ⟨ih0, ih1⟩ := l05_LcsNumbers.mono_l k
  unfold l05_LcsNumbers.f
  repeat' first
      | (with_reducible exact ih0 _ _ _ _)
      | (with_reducible exact ih1 _ _ _ _ _)
      | (with_reducible exact l05_awake.mono _)
      | (with_reducible exact r05_Numbers.mono _ _)
      | (with_reducible exact r05_Same.mono _ _ _)
      | (with_reducible exact r05_Texts.mono _ _ _)
      | (with_reducible exact lcs_Numbers.mono _ _)
      | (with_reducible exact lcs_Texts.mono _ _ _)
      | (with_reducible exact LeO.refl _)
      | (with_reducible exact LeO.none _)
      | (with_reducible refine LeO.ite ?_ ?_)
      | (with_reducible refine LeO.bind ?_ (fun _ => ?_))
      | exact ih0 _ _ _ _
      | exact ih1 _ _ _ _ _
      | exact l05_awake.mono _
      | exact r05_Numbers.mono _ _
      | exact r05_Same.mono _ _ _
      | exact r05_Texts.mono _ _ _
      | exact lcs_Numbers.mono _ _
      | exact lcs_Texts.mono _ _ _
      | exact LeO.none _
      | refine LeO.ite ?_ ?_
      | refine LeO.bind ?_ (fun _ => ?_)
set_option maxHeartbeats 8000000 in
set_option maxRecDepth 100000 in
theorem l05_LcsNumbers.calls (k : Nat) (P0_ : Nat → Prop) (A0 : Option Addr) (c0 : Nat) (l0 : List ByteArray) (P1_ : Nat → Prop) (A1 : Option Addr) (c1 : Nat) (l1 : List ByteArray) (P2_ : Nat → Prop) (A2 : Option Addr) (c2 : Nat) (l2 : List ByteArray) (r : Bool) (w : World) (hs0 : Kd.V Kd.string 9 w w.heap.size (fun k_ => P0_ k_) (.slice A0 l0.length c0) l0) (hs1 : Kd.V Kd.string 9 w w.heap.size (fun k_ => P1_ k_) (.slice A1 l1.length c1) l1) (hs2 : Kd.V Kd.string 9 w w.heap.size (fun k_ => P2_ k_) (.slice A2 l2.length c2) l2) (h : l05_LcsNumbers.f k l0 l1 l2 = some r) :
    Calls Try.prog 4 #[.slice A0 l0.length c0, .slice A1 l1.length c1, .slice A2 l2.length c2] w fun e w' => e = .returned (.bool r) ∧ Below w.heap.size w w' := by
  have HO0 := Zm (show Kd.V Kd.string 9 w w.heap.size (fun k_ => ((P0_ k_ ∨ P1_ k_ ∨ P2_ k_) ∨ w.heap.size ≤ k_)) (.slice A0 l0.length c0) l0 from Kd.V_mono hs0 (fun k_ hk => .inl (.inl hk)))
  have HO1 := Zm (show Kd.V Kd.string 9 w w.heap.size (fun k_ => ((P0_ k_ ∨ P1_ k_ ∨ P2_ k_) ∨ w.heap.size ≤ k_)) (.slice A1 l1.length c1) l1 from Kd.V_mono hs1 (fun k_ hk => .inl (.inr (.inl hk))))
  have HO2 := Zm (show Kd.V Kd.string 9 w w.heap.size (fun k_ => ((P0_ k_ ∨ P1_ k_ ∨ P2_ k_) ∨ w.heap.size ≤ k_)) (.slice A2 l2.length c2) l2 from Kd.V_mono hs2 (fun k_ hk => .inl (.inr (.inr hk))))
  have HB := Zm (Below.refl w.heap.size w)
  have H : ((l05_awake.f k).bind fun t311 => (if t311 = true then (if (l0.length : Int) > 100 then (l05_LcsNumbers.j0 k l0 l1 l2 true) else (if (l1.length : Int) > 100 then (l05_LcsNumbers.j0 k l0 l1 l2 true) else (l05_LcsNumbers.j0 k l0 l1 l2 (decide ((l2.length : Int) > 100))))) else (none))) = some r := h
  clear h
  replace H := Option.bind_eq_some_iff.mp H
  obtain ⟨t311, A40, H⟩ := H
  replace H : (if t311 = true then (if (l0.length : Int) > 100 then (l05_LcsNumbers.j0 k l0 l1 l2 true) else (if (l1.length : Int) > 100 then (l05_LcsNumbers.j0 k l0 l1 l2 true) else (l05_LcsNumbers.j0 k l0 l1 l2 (decide ((l2.length : Int) > 100))))) else (none)) = some r := H
  have A4 := Zm A40
  clear A40
  by_cases c5 : t311 = true
  · subst c5
    have H1 : (if (l0.length : Int) > 100 then (l05_LcsNumbers.j0 k l0 l1 l2 true) else (if (l1.length : Int) > 100 then (l05_LcsNumbers.j0 k l0 l1 l2 true) else (l05_LcsNumbers.j0 k l0 l1 l2 (decide ((l2.length : Int) > 100))))) = some r := by rw [if_pos rfl] at H; exact H
    clear H
    have H := H1
    clear H1
    have HC6 := Zm H
    clear H
    go_enter Try.func4, Try.ntmps4
    go_upto_region 4 with (first | (go_at_call 8; (with_reducible refine (l05_awake.calls k  true _ A4.out).mono ?_); rintro e w7 ⟨rfl, hb⟩; have n0_ := Zm (Kd.V_below (by (with_reducible repeat (first | apply Kd.V_alloc | apply Kd.V_drewN | apply Kd.V_drew)); exact HO0.out) hb); have n1_ := Zm (Kd.V_below (by (with_reducible repeat (first | apply Kd.V_alloc | apply Kd.V_drewN | apply Kd.V_drew)); exact HO1.out) hb); have n2_ := Zm (Kd.V_below (by (with_reducible repeat (first | apply Kd.V_alloc | apply Kd.V_drewN | apply Kd.V_drew)); exact HO2.out) hb); have n3_ := Zm (below_step (by repeat (first | (with_reducible first | exact HB.out | apply below_alloc | apply Zd | apply below_drew1) | exact HB.out)) hb); clear HO0; clear HO1; clear HO2; clear HB; have HO0 := n0_; have HO1 := n1_; have HO2 := n2_; have HB := n3_; clear n0_ n1_ n2_ n3_; (try clear hb); (try clear hb2); (try clear hk); (try clear hi)))
    repeat (go_quiet (first | (go_at_call 8; (with_reducible refine (l05_awake.calls k  true _ A4.out).mono ?_); rintro e w7 ⟨rfl, hb⟩; have n0_ := Zm (Kd.V_below (by (with_reducible repeat (first | apply Kd.V_alloc | apply Kd.V_drewN | apply Kd.V_drew)); exact HO0.out) hb); have n1_ := Zm (Kd.V_below (by (with_reducible repeat (first | apply Kd.V_alloc | apply Kd.V_drewN | apply Kd.V_drew)); exact HO1.out) hb); have n2_ := Zm (Kd.V_below (by (with_reducible repeat (first | apply Kd.V_alloc | apply Kd.V_drewN | apply Kd.V_drew)); exact HO2.out) hb); have n3_ := Zm (below_step (by repeat (first | (with_reducible first | exact HB.out | apply below_alloc | apply Zd | apply below_drew1) | exact HB.out)) hb); clear HO0; clear HO1; clear HO2; clear HB; have HO0 := n0_; have HO1 := n1_; have HO2 := n2_; have HB := n3_; clear n0_ n1_ n2_ n3_; (try clear hb); (try clear hb2); (try clear hk); (try clear hi))); go_upto_region 4 with (first | (go_at_call 8; (with_reducible refine (l05_awake.calls k  true _ A4.out).mono ?_); rintro e w7 ⟨rfl, hb⟩; have n0_ := Zm (Kd.V_below (by (with_reducible repeat (first | apply Kd.V_alloc | apply Kd.V_drewN | apply Kd.V_drew)); exact HO0.out) hb); have n1_ := Zm (Kd.V_below (by (with_reducible repeat (first | apply Kd.V_alloc | apply Kd.V_drewN | apply Kd.V_drew)); exact HO1.out) hb); have n2_ := Zm (Kd.V_below (by (with_reducible repeat (first | apply Kd.V_alloc | apply Kd.V_drewN | apply Kd.V_drew)); exact HO2.out) hb); have n3_ := Zm (below_step (by repeat (first | (with_reducible first | exact HB.out | apply below_alloc | apply Zd | apply below_drew1) | exact HB.out)) hb); clear HO0; clear HO1; clear HO2; clear HB; have HO0 := n0_; have HO1 := n1_; have HO2 := n2_; have HB := n3_; clear n0_ n1_ n2_ n3_; (try clear hb); (try clear hb2); (try clear hk); (try clear hi))))
    (try simp only [Act.put, List.setIfInBounds_toArray, List.set_cons_zero, List.set_cons_succ])
    go_cut [26] (fun v26 wc => ∃ (kq : Nat) (x26_5 : Bool), v26 = .bool x26_5 ∧ Aside0 (l05_LcsNumbers.j0 kq l0 l1 l2 x26_5 = some r) ∧ Aside0 (kq ≤ k) ∧ Aside0 (Kd.V Kd.string 9 wc w.heap.size (fun k_ => ((P0_ k_ ∨ P1_ k_ ∨ P2_ k_) ∨ w.heap.size ≤ k_)) (.slice A0 l0.length c0) l0) ∧ Aside0 (Kd.V Kd.string 9 wc w.heap.size (fun k_ => ((P0_ k_ ∨ P1_ k_ ∨ P2_ k_) ∨ w.heap.size ≤ k_)) (.slice A1 l1.length c1) l1) ∧ Aside0 (Kd.V Kd.string 9 wc w.heap.size (fun k_ => ((P0_ k_ ∨ P1_ k_ ∨ P2_ k_) ∨ w.heap.size ≤ k_)) (.slice A2 l2.length c2) l2) ∧ Aside0 (Below w.heap.size w wc))
    case first =>
      have H := HC6.out
      clear HC6
      by_cases c8 : (l0.length : Int) > 100
      · rw [if_pos c8] at H
        have c8b0 : decide (100 < (l0.length : Int)) = true := decide_eq_true c8
        have c8b1 : decide (100 < l0.length) = true := decide_eq_true (by omega)
        clear c8
        (first | rw [c8b0] | (simp only [i64_w, i32_w]; rw [c8b0]) | skip)
        have H' := Zm H
        clear H
        go_wp2
        repeat (go_quiet (fail); try go_wp2)
        go_meet
        case rel => exact ⟨_, (true), (by first | rfl | (simp; done) | (simp [*]; done)), H', ⟨by first | omega | exact Nat.le_refl _⟩, ⟨by (with_reducible repeat (first | apply Kd.V_alloc | apply Kd.V_drewN | apply Kd.V_drew)); exact HO0.out⟩, ⟨by (with_reducible repeat (first | apply Kd.V_alloc | apply Kd.V_drewN | apply Kd.V_drew)); exact HO1.out⟩, ⟨by (with_reducible repeat (first | apply Kd.V_alloc | apply Kd.V_drewN | apply Kd.V_drew)); exact HO2.out⟩, ⟨by repeat (first | (with_reducible first | exact HB.out | apply below_alloc | apply Zd | apply below_drew1) | exact HB.out)⟩⟩
      · rw [if_neg c8] at H
        have c8b0 : decide (100 < (l0.length : Int)) = false := decide_eq_false c8
        have c8b1 : decide (100 < l0.length) = false := decide_eq_false (by omega)
        clear c8
        (first | rw [c8b0] | (simp only [i64_w, i32_w]; rw [c8b0]) | skip)
        by_cases c9 : (l1.length : Int) > 100
        · rw [if_pos c9] at H
          have c9b0 : decide (100 < (l1.length : Int)) = true := decide_eq_true c9
          have c9b1 : decide (100 < l1.length) = true := decide_eq_true (by omega)
          clear c9
          have H' := Zm H
          clear H
          go_wp2
          repeat (go_quiet (fail); try go_wp2)
          go_meet
          case rel => exact ⟨_, (true), (by first | rfl | (simp; done) | (simp [*]; done)), H', ⟨by first | omega | exact Nat.le_refl _⟩, ⟨by (with_reducible repeat (first | apply Kd.V_alloc | apply Kd.V_drewN | apply Kd.V_drew)); exact HO0.out⟩, ⟨by (with_reducible repeat (first | apply Kd.V_alloc | apply Kd.V_drewN | apply Kd.V_drew)); exact HO1.out⟩, ⟨by (with_reducible repeat (first | apply Kd.V_alloc | apply Kd.V_drewN | apply Kd.V_drew)); exact HO2.out⟩, ⟨by repeat (first | (with_reducible first | exact HB.out | apply below_alloc | apply Zd | apply below_drew1) | exact HB.out)⟩⟩
        · rw [if_neg c9] at H
          have c9b0 : decide (100 < (l1.length : Int)) = false := decide_eq_false c9
          have c9b1 : decide (100 < l1.length) = false := decide_eq_false (by omega)
          clear c9
          have H' := Zm H
          clear H
          go_wp2
          repeat (go_quiet (fail); try go_wp2)
          go_meet
          case rel => exact ⟨_, (decide ((l2.length : Int) > 100)), (by first | rfl | (simp; done) | (simp [*]; done)), H', ⟨by first | omega | exact Nat.le_refl _⟩, ⟨by (with_reducible repeat (first | apply Kd.V_alloc | apply Kd.V_drewN | apply Kd.V_drew)); exact HO0.out⟩, ⟨by (with_reducible repeat (first | apply Kd.V_alloc | apply Kd.V_drewN | apply Kd.V_drew)); exact HO1.out⟩, ⟨by (with_reducible repeat (first | apply Kd.V_alloc | apply Kd.V_drewN | apply Kd.V_drew)); exact HO2.out⟩, ⟨by repeat (first | (with_reducible first | exact HB.out | apply below_alloc | apply Zd | apply below_drew1) | exact HB.out)⟩⟩
    case rest =>
      clear HC6
      try clear c1
      try clear c2
      try clear p2
      try clear c4
      try clear c5
      try clear c8
      try clear c8b0
      try clear c8b1
      try clear c9
      try clear c9b0
      try clear c9b1
      obtain ⟨kq, x26_5, rfl, HA, HJ5, HO_0, HO_1, HO_2, HB⟩ := hcut
      cases kq with
      | zero => exact absurd HA.out (by simp [l05_LcsNumbers.j0])
      | succ kj5 =>
        have H := HA.out
        clear HA
        simp only [l05_LcsNumbers.j0] at H
        by_cases c10 : x26_5 = true
        · subst c10
          have H1 : (some true) = some r := by rw [if_pos rfl] at H; exact H
          clear H
          have H := H1
          clear H1
          obtain rfl := Option.some.inj H
          go_wp2
          repeat (go_quiet (fail); try go_wp2)
          go_ret
          exact ⟨by first | rfl | (simp [errW_none, errW_some] <;> rfl) | (simp [*, errW_none, errW_some] <;> rfl), by repeat (first | (with_reducible first | exact HB.out | apply below_alloc | apply Zd | apply below_drew1) | exact HB.out)⟩
        · replace c10 := Bool.eq_false_iff.mpr c10
          subst c10
          have H1 : ((lcs_Numbers.f kj5 (([l0, l1, l2] : List (List ByteArray)))).bind fun t315 => ((r05_Numbers.f kj5 (([l0, l1, l2] : List (List ByteArray)))).bind fun t321 => (if (t315.length : Int) = 3 then (l05_LcsNumbers.l0 kj5 l0 l1 t315 t321 0) else (none)))) = some r := by rw [if_neg (show ¬ (false = true) by decide)] at H; exact H
          clear H
          have H := H1
          clear H1
          obtain ⟨y312, hy312⟩ : ∃ y_ : List (List ByteArray), y_ = (([l0, l1, l2] : List (List ByteArray))) := ⟨_, rfl⟩
          replace H : ((lcs_Numbers.f kj5 y312).bind fun t315 => ((r05_Numbers.f kj5 (([l0, l1, l2] : List (List ByteArray)))).bind fun t321 => (if (t315.length : Int) = 3 then (l05_LcsNumbers.l0 kj5 l0 l1 t315 t321 0) else (none)))) = some r := by first | (rw [hy312]; with_reducible exact H) | (have H2_ := (Option.bind_some _ _).symm.trans H; rw [hy312]; with_reducible exact H2_) | (have H2_ := (Option.bind_some _ _).symm.trans H; with_reducible exact H2_) | with_reducible exact H | (rw [hy312]; exact H) | exact H
          have Ny312 := Zm hy312
          clear hy312
          replace H := Option.bind_eq_some_iff.mp H
          obtain ⟨t315, A110, H⟩ := H
          replace H : ((r05_Numbers.f kj5 (([l0, l1, l2] : List (List ByteArray)))).bind fun t321 => (if (t315.length : Int) = 3 then (l05_LcsNumbers.l0 kj5 l0 l1 t315 t321 0) else (none))) = some r := H
          have A11 := Zm A110
          clear A110
          obtain ⟨y318, hy318⟩ : ∃ y_ : List (List ByteArray), y_ = (([l0, l1, l2] : List (List ByteArray))) := ⟨_, rfl⟩
          replace H : ((r05_Numbers.f kj5 y318).bind fun t321 => (if (t315.length : Int) = 3 then (l05_LcsNumbers.l0 kj5 l0 l1 t315 t321 0) else (none))) = some r := by first | (rw [hy318]; with_reducible exact H) | (have H2_ := (Option.bind_some _ _).symm.trans H; rw [hy318]; with_reducible exact H2_) | (have H2_ := (Option.bind_some _ _).symm.trans H; with_reducible exact H2_) | with_reducible exact H | (rw [hy318]; exact H) | exact H
          have Ny318 := Zm hy318
          clear hy318
          replace H := Option.bind_eq_some_iff.mp H
          obtain ⟨t321, A120, H⟩ := H
          replace H : (if (t315.length : Int) = 3 then (l05_LcsNumbers.l0 kj5 l0 l1 t315 t321 0) else (none)) = some r := H
          have A12 := Zm A120
          clear A120
          by_cases c13 : (t315.length : Int) = 3
          · rw [if_pos c13] at H
            have c13b0 : ((t315.length : Int) == 3) = true := beq_iff_eq.mpr c13
            have c13b1 : ((t315.length : Int) != 3) = false := bne_eq_false_iff_eq.mpr c13
            clear c13
            have H' := Zm H
            clear H
            go_wp2_with (first | ((with_reducible refine gate_dst (N := 30) rfl ?_); (try (refine gate_guard (by rfl) ?_; dsimp only)); refine Kd.N_lit (Kd.slice 9 Kd.string) _ 27 ?hg (N' := 30) ?hd (xs := ([l0, l1, l2] : List (List ByteArray))) (inner := [.slice A0 l0.length c0, .slice A1 l1.length c1, .slice A2 l2.length c2]) (ok := (fun k_ => ((P0_ k_ ∨ P1_ k_ ∨ P2_ k_) ∨ w.heap.size ≤ k_))) (okp := (fun k_ => ((P0_ k_ ∨ P1_ k_ ∨ P2_ k_) ∨ w.heap.size ≤ k_))) ?hr ?hp (fun _ hk => hk) ((show ∀ k_, wc.heap.size ≤ k_ → (fun k_ => ((P0_ k_ ∨ P1_ k_ ∨ P2_ k_) ∨ w.heap.size ≤ k_)) k_ from fun k_ hk => (.inr (Nat.le_trans (below_size (by repeat (first | (with_reducible first | exact HB.out | apply below_alloc | apply Zd | apply below_drew1) | exact HB.out))) hk))) _ (Nat.le_refl _)) (Below.refl _ _) (Nat.le_refl _) (by simp) ?_; (case hd => rfl); (case hg => rfl); (case hr => first | (go_simp; done) | (go_simp; rfl)); (case hp => exact (Reps.one (show Kd.FK (Kd.slice 9 Kd.string) _ _ l0 [.slice A0 l0.length c0] from (Kd.FK_slice_mk (Kd.V_reads' (Kd.V_mono (ok' := (fun k_ => ((P0_ k_ ∨ P1_ k_ ∨ P2_ k_) ∨ w.heap.size ≤ k_))) (HO_0.out) (fun k_ hk => hk))).2.1 (Kd.V_F (Kd.V_mono (ok' := (fun k_ => ((P0_ k_ ∨ P1_ k_ ∨ P2_ k_) ∨ w.heap.size ≤ k_))) (HO_0.out) (fun k_ hk => hk))))) (Reps.one (show Kd.FK (Kd.slice 9 Kd.string) _ _ l1 [.slice A1 l1.length c1] from (Kd.FK_slice_mk (Kd.V_reads' (Kd.V_mono (ok' := (fun k_ => ((P0_ k_ ∨ P1_ k_ ∨ P2_ k_) ∨ w.heap.size ≤ k_))) (HO_1.out) (fun k_ hk => hk))).2.1 (Kd.V_F (Kd.V_mono (ok' := (fun k_ => ((P0_ k_ ∨ P1_ k_ ∨ P2_ k_) ∨ w.heap.size ≤ k_))) (HO_1.out) (fun k_ hk => hk))))) (Reps.one (show Kd.FK (Kd.slice 9 Kd.string) _ _ l2 [.slice A2 l2.length c2] from (Kd.FK_slice_mk (Kd.V_reads' (Kd.V_mono (ok' := (fun k_ => ((P0_ k_ ∨ P1_ k_ ∨ P2_ k_) ∨ w.heap.size ≤ k_))) (HO_2.out) (fun k_ hk => hk))).2.1 (Kd.V_F (Kd.V_mono (ok' := (fun k_ => ((P0_ k_ ∨ P1_ k_ ∨ P2_ k_) ∨ w.heap.size ≤ k_))) (HO_2.out) (fun k_ hk => hk))))) (Reps.none _ _))))); intro v313 w14 ho15 hb hg_ hnew_; clear hg_ hnew_; (first | rw [← Ny312.out] at ho15 | (simp only [Int.reduceToNat] at ho15; rw [← Ny312.out] at ho15)); have n0_ := Zm (Kd.V_elder' (by (with_reducible repeat (first | apply Kd.V_alloc | apply Kd.V_drewN | apply Kd.V_drew)); exact HO_0.out) (by first | exact Kd.N_base ho15 | exact Kd.S_base ho15 | exact Kd.R_base ho15) hb); have n1_ := Zm (Kd.V_elder' (by (with_reducible repeat (first | apply Kd.V_alloc | apply Kd.V_drewN | apply Kd.V_drew)); exact HO_1.out) (by first | exact Kd.N_base ho15 | exact Kd.S_base ho15 | exact Kd.R_base ho15) hb); have n2_ := Zm (Kd.V_elder' (by (with_reducible repeat (first | apply Kd.V_alloc | apply Kd.V_drewN | apply Kd.V_drew)); exact HO_2.out) (by first | exact Kd.N_base ho15 | exact Kd.S_base ho15 | exact Kd.R_base ho15) hb); have n3_ := Zm (Kd.N_lower ho15 (below_size (by repeat (first | (with_reducible first | exact HB.out | apply below_alloc | apply Zd | apply below_drew1) | exact HB.out)))); have n4_ := Zm (below_step (by repeat (first | (with_reducible first | exact HB.out | apply below_alloc | apply Zd | apply below_drew1) | exact HB.out)) hb); clear HO_0; clear HO_1; clear HO_2; clear HB; have HO_0 := n0_; have HO_1 := n1_; have HO_2 := n2_; have HO314 := n3_; have HB := n4_; clear n0_ n1_ n2_ n3_ n4_; clear hb ho15; obtain ⟨Ao16, co16, eo16⟩ := Kd.N_slice HO314.out; subst eo16) | (go_at_call 16; (with_reducible refine (lcs_Numbers.calls kj5 _ _ y312 t315 _ ?side1 ?side2 A11.out).mono ?_); (case side1 => repeat (first | exact (Kd.N_reads' HO314.out).2.2 | (with_reducible refine Kd.C_alloc ?_ _) | (with_reducible refine Kd.C_drewN ?_ _) | (with_reducible refine Kd.C_drew ?_))); (case side2 => exact (Kd.N_reads' HO314.out).2.1); rintro e w17 ⟨v316, rfl, ho0, hb⟩; have n0_ := Zm (Kd.V_elder' (by (with_reducible repeat (first | apply Kd.V_alloc | apply Kd.V_drewN | apply Kd.V_drew)); exact HO_0.out) (by first | exact Kd.N_base ho0 | exact Kd.S_base ho0 | exact Kd.R_base ho0) hb); have n1_ := Zm (Kd.V_elder' (by (with_reducible repeat (first | apply Kd.V_alloc | apply Kd.V_drewN | apply Kd.V_drew)); exact HO_1.out) (by first | exact Kd.N_base ho0 | exact Kd.S_base ho0 | exact Kd.R_base ho0) hb); have n2_ := Zm (Kd.V_elder' (by (with_reducible repeat (first | apply Kd.V_alloc | apply Kd.V_drewN | apply Kd.V_drew)); exact HO_2.out) (by first | exact Kd.N_base ho0 | exact Kd.S_base ho0 | exact Kd.R_base ho0) hb); have n3_ := Zm (Kd.N_elder' (by (with_reducible repeat (first | apply Kd.N_alloc | apply Kd.N_drewN | apply Kd.N_drew)); exact HO314.out) (by first | exact Kd.N_base ho0 | exact Kd.S_base ho0 | exact Kd.R_base ho0) hb); have n4_ := Zm (Kd.N_lower (Kd.N_mono (ok' := fun k_ => ((P0_ k_ ∨ P1_ k_ ∨ P2_ k_) ∨ w.heap.size ≤ k_) ∧ some k_ ≠ (.slice Ao16 y312.length co16 : Value).ownBlock) (Kd.S_N (Kd.S_bound ho0)) (fun k_ hk_ => ⟨(.inr (Nat.le_trans (below_size (by repeat (first | (with_reducible first | exact HB.out | apply below_alloc | apply Zd | apply below_drew1) | exact HB.out))) hk_.2.1)), (Kd.fresh' (Kd.N_lt (by (with_reducible repeat (first | apply Kd.N_alloc | apply Kd.N_drewN | apply Kd.N_drew)); exact HO314.out)) k_ hk_.2.1)⟩)) (below_size (by repeat (first | (with_reducible first | exact HB.out | apply below_alloc | apply Zd | apply below_drew1) | exact HB.out)))); have n5_ := Zm (below_step (by repeat (first | (with_reducible first | exact HB.out | apply below_alloc | apply Zd | apply below_drew1) | exact HB.out)) hb); clear HO_0; clear HO_1; clear HO_2; clear HO314; clear HB; have HO_0 := n0_; have HO_1 := n1_; have HO_2 := n2_; have HO314 := n3_; have HO317 := n4_; have HB := n5_; clear n0_ n1_ n2_ n3_ n4_ n5_; (try clear hb); (try clear hb2); (try clear hk); (try clear hi); (try clear ho0)) | ((with_reducible refine gate_dst (N := 35) rfl ?_); (try (refine gate_guard (by rfl) ?_; dsimp only)); refine Kd.N_lit (Kd.slice 9 Kd.string) _ 27 ?hg (N' := 35) ?hd (xs := ([l0, l1, l2] : List (List ByteArray))) (inner := [.slice A0 l0.length c0, .slice A1 l1.length c1, .slice A2 l2.length c2]) (ok := (fun k_ => ((P0_ k_ ∨ P1_ k_ ∨ P2_ k_) ∨ w.heap.size ≤ k_) ∧ some k_ ≠ (.slice Ao16 y312.length co16 : Value).ownBlock ∧ some k_ ≠ (v316 : Value).ownBlock)) (okp := (fun k_ => ((P0_ k_ ∨ P1_ k_ ∨ P2_ k_) ∨ w.heap.size ≤ k_) ∧ some k_ ≠ (.slice Ao16 y312.length co16 : Value).ownBlock ∧ some k_ ≠ (v316 : Value).ownBlock)) ?hr ?hp (fun _ hk => hk) ((show ∀ k_, w17.heap.size ≤ k_ → (fun k_ => ((P0_ k_ ∨ P1_ k_ ∨ P2_ k_) ∨ w.heap.size ≤ k_) ∧ some k_ ≠ (.slice Ao16 y312.length co16 : Value).ownBlock ∧ some k_ ≠ (v316 : Value).ownBlock) k_ from fun k_ hk => ⟨(.inr (Nat.le_trans (below_size (by repeat (first | (with_reducible first | exact HB.out | apply below_alloc | apply Zd | apply below_drew1) | exact HB.out))) hk)), Kd.fresh' (Kd.N_lt (by (with_reducible repeat (first | apply Kd.N_alloc | apply Kd.N_drewN | apply Kd.N_drew)); exact HO314.out)) k_ hk, Kd.fresh' (Kd.N_lt (by (with_reducible repeat (first | apply Kd.N_alloc | apply Kd.N_drewN | apply Kd.N_drew)); exact HO317.out)) k_ hk⟩) _ (Nat.le_refl _)) (Below.refl _ _) (Nat.le_refl _) (by simp) ?_; (case hd => rfl); (case hg => rfl); (case hr => first | (go_simp; done) | (go_simp; rfl)); (case hp => exact (Reps.one (show Kd.FK (Kd.slice 9 Kd.string) _ _ l0 [.slice A0 l0.length c0] from (Kd.FK_slice_mk (Kd.V_reads' (Kd.V_mono (ok' := (fun k_ => ((P0_ k_ ∨ P1_ k_ ∨ P2_ k_) ∨ w.heap.size ≤ k_) ∧ some k_ ≠ (.slice Ao16 y312.length co16 : Value).ownBlock ∧ some k_ ≠ (v316 : Value).ownBlock)) (HO_0.out) (fun k_ hk => ⟨hk.1.1, ⟨hk.1.2, hk.2⟩⟩))).2.1 (Kd.V_F (Kd.V_mono (ok' := (fun k_ => ((P0_ k_ ∨ P1_ k_ ∨ P2_ k_) ∨ w.heap.size ≤ k_) ∧ some k_ ≠ (.slice Ao16 y312.length co16 : Value).ownBlock ∧ some k_ ≠ (v316 : Value).ownBlock)) (HO_0.out) (fun k_ hk => ⟨hk.1.1, ⟨hk.1.2, hk.2⟩⟩))))) (Reps.one (show Kd.FK (Kd.slice 9 Kd.string) _ _ l1 [.slice A1 l1.length c1] from (Kd.FK_slice_mk (Kd.V_reads' (Kd.V_mono (ok' := (fun k_ => ((P0_ k_ ∨ P1_ k_ ∨ P2_ k_) ∨ w.heap.size ≤ k_) ∧ some k_ ≠ (.slice Ao16 y312.length co16 : Value).ownBlock ∧ some k_ ≠ (v316 : Value).ownBlock)) (HO_1.out) (fun k_ hk => ⟨hk.1.1, ⟨hk.1.2, hk.2⟩⟩))).2.1 (Kd.V_F (Kd.V_mono (ok' := (fun k_ => ((P0_ k_ ∨ P1_ k_ ∨ P2_ k_) ∨ w.heap.size ≤ k_) ∧ some k_ ≠ (.slice Ao16 y312.length co16 : Value).ownBlock ∧ some k_ ≠ (v316 : Value).ownBlock)) (HO_1.out) (fun k_ hk => ⟨hk.1.1, ⟨hk.1.2, hk.2⟩⟩))))) (Reps.one (show Kd.FK (Kd.slice 9 Kd.string) _ _ l2 [.slice A2 l2.length c2] from (Kd.FK_slice_mk (Kd.V_reads' (Kd.V_mono (ok' := (fun k_ => ((P0_ k_ ∨ P1_ k_ ∨ P2_ k_) ∨ w.heap.size ≤ k_) ∧ some k_ ≠ (.slice Ao16 y312.length co16 : Value).ownBlock ∧ some k_ ≠ (v316 : Value).ownBlock)) (HO_2.out) (fun k_ hk => ⟨hk.1.1, ⟨hk.1.2, hk.2⟩⟩))).2.1 (Kd.V_F (Kd.V_mono (ok' := (fun k_ => ((P0_ k_ ∨ P1_ k_ ∨ P2_ k_) ∨ w.heap.size ≤ k_) ∧ some k_ ≠ (.slice Ao16 y312.length co16 : Value).ownBlock ∧ some k_ ≠ (v316 : Value).ownBlock)) (HO_2.out) (fun k_ hk => ⟨hk.1.1, ⟨hk.1.2, hk.2⟩⟩))))) (Reps.none _ _))))); intro v319 w18 ho19 hb hg_ hnew_; clear hg_ hnew_; (first | rw [← Ny318.out] at ho19 | (simp only [Int.reduceToNat] at ho19; rw [← Ny318.out] at ho19)); have n0_ := Zm (Kd.V_elder' (by (with_reducible repeat (first | apply Kd.V_alloc | apply Kd.V_drewN | apply Kd.V_drew)); exact HO_0.out) (by first | exact Kd.N_base ho19 | exact Kd.S_base ho19 | exact Kd.R_base ho19) hb); have n1_ := Zm (Kd.V_elder' (by (with_reducible repeat (first | apply Kd.V_alloc | apply Kd.V_drewN | apply Kd.V_drew)); exact HO_1.out) (by first | exact Kd.N_base ho19 | exact Kd.S_base ho19 | exact Kd.R_base ho19) hb); have n2_ := Zm (Kd.V_elder' (by (with_reducible repeat (first | apply Kd.V_alloc | apply Kd.V_drewN | apply Kd.V_drew)); exact HO_2.out) (by first | exact Kd.N_base ho19 | exact Kd.S_base ho19 | exact Kd.R_base ho19) hb); have n3_ := Zm (Kd.N_elder' (by (with_reducible repeat (first | apply Kd.N_alloc | apply Kd.N_drewN | apply Kd.N_drew)); exact HO314.out) (by first | exact Kd.N_base ho19 | exact Kd.S_base ho19 | exact Kd.R_base ho19) hb); have n4_ := Zm (Kd.N_elder' (by (with_reducible repeat (first | apply Kd.N_alloc | apply Kd.N_drewN | apply Kd.N_drew)); exact HO317.out) (by first | exact Kd.N_base ho19 | exact Kd.S_base ho19 | exact Kd.R_base ho19) hb); have n5_ := Zm (Kd.N_lower ho19 (below_size (by repeat (first | (with_reducible first | exact HB.out | apply below_alloc | apply Zd | apply below_drew1) | exact HB.out)))); have n6_ := Zm (below_step (by repeat (first | (with_reducible first | exact HB.out | apply below_alloc | apply Zd | apply below_drew1) | exact HB.out)) hb); clear HO_0; clear HO_1; clear HO_2; clear HO314; clear HO317; clear HB; have HO_0 := n0_; have HO_1 := n1_; have HO_2 := n2_; have HO314 := n3_; have HO317 := n4_; have HO320 := n5_; have HB := n6_; clear n0_ n1_ n2_ n3_ n4_ n5_ n6_; clear hb ho19; obtain ⟨Ao20, co20, eo20⟩ := Kd.N_slice HO320.out; subst eo20) | (go_at_call 17; (with_reducible refine (r05_Numbers.calls kj5 _ _ y318 t321 _ ?side1 ?side2 A12.out).mono ?_); (case side1 => repeat (first | exact (Kd.N_reads' HO320.out).2.2 | (with_reducible refine Kd.C_alloc ?_ _) | (with_reducible refine Kd.C_drewN ?_ _) | (with_reducible refine Kd.C_drew ?_))); (case side2 => exact (Kd.N_reads' HO320.out).2.1); rintro e w21 ⟨v322, rfl, ho0, hb⟩; have n0_ := Zm (Kd.V_elder' (by (with_reducible repeat (first | apply Kd.V_alloc | apply Kd.V_drewN | apply Kd.V_drew)); exact HO_0.out) (by first | exact Kd.N_base ho0 | exact Kd.S_base ho0 | exact Kd.R_base ho0) hb); have n1_ := Zm (Kd.V_elder' (by (with_reducible repeat (first | apply Kd.V_alloc | apply Kd.V_drewN | apply Kd.V_drew)); exact HO_1.out) (by first | exact Kd.N_base ho0 | exact Kd.S_base ho0 | exact Kd.R_base ho0) hb); have n2_ := Zm (Kd.V_elder' (by (with_reducible repeat (first | apply Kd.V_alloc | apply Kd.V_drewN | apply Kd.V_drew)); exact HO_2.out) (by first | exact Kd.N_base ho0 | exact Kd.S_base ho0 | exact Kd.R_base ho0) hb); have n3_ := Zm (Kd.N_elder' (by (with_reducible repeat (first | apply Kd.N_alloc | apply Kd.N_drewN | apply Kd.N_drew)); exact HO314.out) (by first | exact Kd.N_base ho0 | exact Kd.S_base ho0 | exact Kd.R_base ho0) hb); have n4_ := Zm (Kd.N_elder' (by (with_reducible repeat (first | apply Kd.N_alloc | apply Kd.N_drewN | apply Kd.N_drew)); exact HO317.out) (by first | exact Kd.N_base ho0 | exact Kd.S_base ho0 | exact Kd.R_base ho0) hb); have n5_ := Zm (Kd.N_elder' (by (with_reducible repeat (first | apply Kd.N_alloc | apply Kd.N_drewN | apply Kd.N_drew)); exact HO320.out) (by first | exact Kd.N_base ho0 | exact Kd.S_base ho0 | exact Kd.R_base ho0) hb); have n6_ := Zm (Kd.N_lower (Kd.N_mono (ok' := fun k_ => ((P0_ k_ ∨ P1_ k_ ∨ P2_ k_) ∨ w.heap.size ≤ k_) ∧ some k_ ≠ (.slice Ao16 y312.length co16 : Value).ownBlock ∧ some k_ ≠ (v316 : Value).ownBlock ∧ some k_ ≠ (.slice Ao20 y318.length co20 : Value).ownBlock) (Kd.S_N (Kd.S_bound ho0)) (fun k_ hk_ => ⟨(.inr (Nat.le_trans (below_size (by repeat (first | (with_reducible first | exact HB.out | apply below_alloc | apply Zd | apply below_drew1) | exact HB.out))) hk_.2.1)), (Kd.fresh' (Kd.N_lt (by (with_reducible repeat (first | apply Kd.N_alloc | apply Kd.N_drewN | apply Kd.N_drew)); exact HO314.out)) k_ hk_.2.1), (Kd.fresh' (Kd.N_lt (by (with_reducible repeat (first | apply Kd.N_alloc | apply Kd.N_drewN | apply Kd.N_drew)); exact HO317.out)) k_ hk_.2.1), (Kd.fresh' (Kd.N_lt (by (with_reducible repeat (first | apply Kd.N_alloc | apply Kd.N_drewN | apply Kd.N_drew)); exact HO320.out)) k_ hk_.2.1)⟩)) (below_size (by repeat (first | (with_reducible first | exact HB.out | apply below_alloc | apply Zd | apply below_drew1) | exact HB.out)))); have n7_ := Zm (below_step (by repeat (first | (with_reducible first | exact HB.out | apply below_alloc | apply Zd | apply below_drew1) | exact HB.out)) hb); clear HO_0; clear HO_1; clear HO_2; clear HO314; clear HO317; clear HO320; clear HB; have HO_0 := n0_; have HO_1 := n1_; have HO_2 := n2_; have HO314 := n3_; have HO317 := n4_; have HO320 := n5_; have HO323 := n6_; have HB := n7_; clear n0_ n1_ n2_ n3_ n4_ n5_ n6_ n7_; (try clear hb); (try clear hb2); (try clear hk); (try clear hi); (try clear ho0); obtain ⟨Ao22, co22, eo22⟩ := Kd.N_slice HO317.out; subst eo22))
            repeat (go_quiet (first | ((with_reducible refine gate_dst (N := 30) rfl ?_); (try (refine gate_guard (by rfl) ?_; dsimp only)); refine Kd.N_lit (Kd.slice 9 Kd.string) _ 27 ?hg (N' := 30) ?hd (xs := ([l0, l1, l2] : List (List ByteArray))) (inner := [.slice A0 l0.length c0, .slice A1 l1.length c1, .slice A2 l2.length c2]) (ok := (fun k_ => ((P0_ k_ ∨ P1_ k_ ∨ P2_ k_) ∨ w.heap.size ≤ k_))) (okp := (fun k_ => ((P0_ k_ ∨ P1_ k_ ∨ P2_ k_) ∨ w.heap.size ≤ k_))) ?hr ?hp (fun _ hk => hk) ((show ∀ k_, wc.heap.size ≤ k_ → (fun k_ => ((P0_ k_ ∨ P1_ k_ ∨ P2_ k_) ∨ w.heap.size ≤ k_)) k_ from fun k_ hk => (.inr (Nat.le_trans (below_size (by repeat (first | (with_reducible first | exact HB.out | apply below_alloc | apply Zd | apply below_drew1) | exact HB.out))) hk))) _ (Nat.le_refl _)) (Below.refl _ _) (Nat.le_refl _) (by simp) ?_; (case hd => rfl); (case hg => rfl); (case hr => first | (go_simp; done) | (go_simp; rfl)); (case hp => exact (Reps.one (show Kd.FK (Kd.slice 9 Kd.string) _ _ l0 [.slice A0 l0.length c0] from (Kd.FK_slice_mk (Kd.V_reads' (Kd.V_mono (ok' := (fun k_ => ((P0_ k_ ∨ P1_ k_ ∨ P2_ k_) ∨ w.heap.size ≤ k_))) (HO_0.out) (fun k_ hk => hk))).2.1 (Kd.V_F (Kd.V_mono (ok' := (fun k_ => ((P0_ k_ ∨ P1_ k_ ∨ P2_ k_) ∨ w.heap.size ≤ k_))) (HO_0.out) (fun k_ hk => hk))))) (Reps.one (show Kd.FK (Kd.slice 9 Kd.string) _ _ l1 [.slice A1 l1.length c1] from (Kd.FK_slice_mk (Kd.V_reads' (Kd.V_mono (ok' := (fun k_ => ((P0_ k_ ∨ P1_ k_ ∨ P2_ k_) ∨ w.heap.size ≤ k_))) (HO_1.out) (fun k_ hk => hk))).2.1 (Kd.V_F (Kd.V_mono (ok' := (fun k_ => ((P0_ k_ ∨ P1_ k_ ∨ P2_ k_) ∨ w.heap.size ≤ k_))) (HO_1.out) (fun k_ hk => hk))))) (Reps.one (show Kd.FK (Kd.slice 9 Kd.string) _ _ l2 [.slice A2 l2.length c2] from (Kd.FK_slice_mk (Kd.V_reads' (Kd.V_mono (ok' := (fun k_ => ((P0_ k_ ∨ P1_ k_ ∨ P2_ k_) ∨ w.heap.size ≤ k_))) (HO_2.out) (fun k_ hk => hk))).2.1 (Kd.V_F (Kd.V_mono (ok' := (fun k_ => ((P0_ k_ ∨ P1_ k_ ∨ P2_ k_) ∨ w.heap.size ≤ k_))) (HO_2.out) (fun k_ hk => hk))))) (Reps.none _ _))))); intro v313 w14 ho15 hb hg_ hnew_; clear hg_ hnew_; (first | rw [← Ny312.out] at ho15 | (simp only [Int.reduceToNat] at ho15; rw [← Ny312.out] at ho15)); have n0_ := Zm (Kd.V_elder' (by (with_reducible repeat (first | apply Kd.V_alloc | apply Kd.V_drewN | apply Kd.V_drew)); exact HO_0.out) (by first | exact Kd.N_base ho15 | exact Kd.S_base ho15 | exact Kd.R_base ho15) hb); have n1_ := Zm (Kd.V_elder' (by (with_reducible repeat (first | apply Kd.V_alloc | apply Kd.V_drewN | apply Kd.V_drew)); exact HO_1.out) (by first | exact Kd.N_base ho15 | exact Kd.S_base ho15 | exact Kd.R_base ho15) hb); have n2_ := Zm (Kd.V_elder' (by (with_reducible repeat (first | apply Kd.V_alloc | apply Kd.V_drewN | apply Kd.V_drew)); exact HO_2.out) (by first | exact Kd.N_base ho15 | exact Kd.S_base ho15 | exact Kd.R_base ho15) hb); have n3_ := Zm (Kd.N_lower ho15 (below_size (by repeat (first | (with_reducible first | exact HB.out | apply below_alloc | apply Zd | apply below_drew1) | exact HB.out)))); have n4_ := Zm (below_step (by repeat (first | (with_reducible first | exact HB.out | apply below_alloc | apply Zd | apply below_drew1) | exact HB.out)) hb); clear HO_0; clear HO_1; clear HO_2; clear HB; have HO_0 := n0_; have HO_1 := n1_; have HO_2 := n2_; have HO314 := n3_; have HB := n4_; clear n0_ n1_ n2_ n3_ n4_; clear hb ho15; obtain ⟨Ao16, co16, eo16⟩ := Kd.N_slice HO314.out; subst eo16) | (go_at_call 16; (with_reducible refine (lcs_Numbers.calls kj5 _ _ y312 t315 _ ?side1 ?side2 A11.out).mono ?_); (case side1 => repeat (first | exact (Kd.N_reads' HO314.out).2.2 | (with_reducible refine Kd.C_alloc ?_ _) | (with_reducible refine Kd.C_drewN ?_ _) | (with_reducible refine Kd.C_drew ?_))); (case side2 => exact (Kd.N_reads' HO314.out).2.1); rintro e w17 ⟨v316, rfl, ho0, hb⟩; have n0_ := Zm (Kd.V_elder' (by (with_reducible repeat (first | apply Kd.V_alloc | apply Kd.V_drewN | apply Kd.V_drew)); exact HO_0.out) (by first | exact Kd.N_base ho0 | exact Kd.S_base ho0 | exact Kd.R_base ho0) hb); have n1_ := Zm (Kd.V_elder' (by (with_reducible repeat (first | apply Kd.V_alloc | apply Kd.V_drewN | apply Kd.V_drew)); exact HO_1.out) (by first | exact Kd.N_base ho0 | exact Kd.S_base ho0 | exact Kd.R_base ho0) hb); have n2_ := Zm (Kd.V_elder' (by (with_reducible repeat (first | apply Kd.V_alloc | apply Kd.V_drewN | apply Kd.V_drew)); exact HO_2.out) (by first | exact Kd.N_base ho0 | exact Kd.S_base ho0 | exact Kd.R_base ho0) hb); have n3_ := Zm (Kd.N_elder' (by (with_reducible repeat (first | apply Kd.N_alloc | apply Kd.N_drewN | apply Kd.N_drew)); exact HO314.out) (by first | exact Kd.N_base ho0 | exact Kd.S_base ho0 | exact Kd.R_base ho0) hb); have n4_ := Zm (Kd.N_lower (Kd.N_mono (ok' := fun k_ => ((P0_ k_ ∨ P1_ k_ ∨ P2_ k_) ∨ w.heap.size ≤ k_) ∧ some k_ ≠ (.slice Ao16 y312.length co16 : Value).ownBlock) (Kd.S_N (Kd.S_bound ho0)) (fun k_ hk_ => ⟨(.inr (Nat.le_trans (below_size (by repeat (first | (with_reducible first | exact HB.out | apply below_alloc | apply Zd | apply below_drew1) | exact HB.out))) hk_.2.1)), (Kd.fresh' (Kd.N_lt (by (with_reducible repeat (first | apply Kd.N_alloc | apply Kd.N_drewN | apply Kd.N_drew)); exact HO314.out)) k_ hk_.2.1)⟩)) (below_size (by repeat (first | (with_reducible first | exact HB.out | apply below_alloc | apply Zd | apply below_drew1) | exact HB.out)))); have n5_ := Zm (below_step (by repeat (first | (with_reducible first | exact HB.out | apply below_alloc | apply Zd | apply below_drew1) | exact HB.out)) hb); clear HO_0; clear HO_1; clear HO_2; clear HO314; clear HB; have HO_0 := n0_; have HO_1 := n1_; have HO_2 := n2_; have HO314 := n3_; have HO317 := n4_; have HB := n5_; clear n0_ n1_ n2_ n3_ n4_ n5_; (try clear hb); (try clear hb2); (try clear hk); (try clear hi); (try clear ho0)) | ((with_reducible refine gate_dst (N := 35) rfl ?_); (try (refine gate_guard (by rfl) ?_; dsimp only)); refine Kd.N_lit (Kd.slice 9 Kd.string) _ 27 ?hg (N' := 35) ?hd (xs := ([l0, l1, l2] : List (List ByteArray))) (inner := [.slice A0 l0.length c0, .slice A1 l1.length c1, .slice A2 l2.length c2]) (ok := (fun k_ => ((P0_ k_ ∨ P1_ k_ ∨ P2_ k_) ∨ w.heap.size ≤ k_) ∧ some k_ ≠ (.slice Ao16 y312.length co16 : Value).ownBlock ∧ some k_ ≠ (v316 : Value).ownBlock)) (okp := (fun k_ => ((P0_ k_ ∨ P1_ k_ ∨ P2_ k_) ∨ w.heap.size ≤ k_) ∧ some k_ ≠ (.slice Ao16 y312.length co16 : Value).ownBlock ∧ some k_ ≠ (v316 : Value).ownBlock)) ?hr ?hp (fun _ hk => hk) ((show ∀ k_, w17.heap.size ≤ k_ → (fun k_ => ((P0_ k_ ∨ P1_ k_ ∨ P2_ k_) ∨ w.heap.size ≤ k_) ∧ some k_ ≠ (.slice Ao16 y312.length co16 : Value).ownBlock ∧ some k_ ≠ (v316 : Value).ownBlock) k_ from fun k_ hk => ⟨(.inr (Nat.le_trans (below_size (by repeat (first | (with_reducible first | exact HB.out | apply below_alloc | apply Zd | apply below_drew1) | exact HB.out))) hk)), Kd.fresh' (Kd.N_lt (by (with_reducible repeat (first | apply Kd.N_alloc | apply Kd.N_drewN | apply Kd.N_drew)); exact HO314.out)) k_ hk, Kd.fresh' (Kd.N_lt (by (with_reducible repeat (first | apply Kd.N_alloc | apply Kd.N_drewN | apply Kd.N_drew)); exact HO317.out)) k_ hk⟩) _ (Nat.le_refl _)) (Below.refl _ _) (Nat.le_refl _) (by simp) ?_; (case hd => rfl); (case hg => rfl); (case hr => first | (go_simp; done) | (go_simp; rfl)); (case hp => exact (Reps.one (show Kd.FK (Kd.slice 9 Kd.string) _ _ l0 [.slice A0 l0.length c0] from (Kd.FK_slice_mk (Kd.V_reads' (Kd.V_mono (ok' := (fun k_ => ((P0_ k_ ∨ P1_ k_ ∨ P2_ k_) ∨ w.heap.size ≤ k_) ∧ some k_ ≠ (.slice Ao16 y312.length co16 : Value).ownBlock ∧ some k_ ≠ (v316 : Value).ownBlock)) (HO_0.out) (fun k_ hk => ⟨hk.1.1, ⟨hk.1.2, hk.2⟩⟩))).2.1 (Kd.V_F (Kd.V_mono (ok' := (fun k_ => ((P0_ k_ ∨ P1_ k_ ∨ P2_ k_) ∨ w.heap.size ≤ k_) ∧ some k_ ≠ (.slice Ao16 y312.length co16 : Value).ownBlock ∧ some k_ ≠ (v316 : Value).ownBlock)) (HO_0.out) (fun k_ hk => ⟨hk.1.1, ⟨hk.1.2, hk.2⟩⟩))))) (Reps.one (show Kd.FK (Kd.slice 9 Kd.string) _ _ l1 [.slice A1 l1.length c1] from (Kd.FK_slice_mk (Kd.V_reads' (Kd.V_mono (ok' := (fun k_ => ((P0_ k_ ∨ P1_ k_ ∨ P2_ k_) ∨ w.heap.size ≤ k_) ∧ some k_ ≠ (.slice Ao16 y312.length co16 : Value).ownBlock ∧ some k_ ≠ (v316 : Value).ownBlock)) (HO_1.out) (fun k_ hk => ⟨hk.1.1, ⟨hk.1.2, hk.2⟩⟩))).2.1 (Kd.V_F (Kd.V_mono (ok' := (fun k_ => ((P0_ k_ ∨ P1_ k_ ∨ P2_ k_) ∨ w.heap.size ≤ k_) ∧ some k_ ≠ (.slice Ao16 y312.length co16 : Value).ownBlock ∧ some k_ ≠ (v316 : Value).ownBlock)) (HO_1.out) (fun k_ hk => ⟨hk.1.1, ⟨hk.1.2, hk.2⟩⟩))))) (Reps.one (show Kd.FK (Kd.slice 9 Kd.string) _ _ l2 [.slice A2 l2.length c2] from (Kd.FK_slice_mk (Kd.V_reads' (Kd.V_mono (ok' := (fun k_ => ((P0_ k_ ∨ P1_ k_ ∨ P2_ k_) ∨ w.heap.size ≤ k_) ∧ some k_ ≠ (.slice Ao16 y312.length co16 : Value).ownBlock ∧ some k_ ≠ (v316 : Value).ownBlock)) (HO_2.out) (fun k_ hk => ⟨hk.1.1, ⟨hk.1.2, hk.2⟩⟩))).2.1 (Kd.V_F (Kd.V_mono (ok' := (fun k_ => ((P0_ k_ ∨ P1_ k_ ∨ P2_ k_) ∨ w.heap.size ≤ k_) ∧ some k_ ≠ (.slice Ao16 y312.length co16 : Value).ownBlock ∧ some k_ ≠ (v316 : Value).ownBlock)) (HO_2.out) (fun k_ hk => ⟨hk.1.1, ⟨hk.1.2, hk.2⟩⟩))))) (Reps.none _ _))))); intro v319 w18 ho19 hb hg_ hnew_; clear hg_ hnew_; (first | rw [← Ny318.out] at ho19 | (simp only [Int.reduceToNat] at ho19; rw [← Ny318.out] at ho19)); have n0_ := Zm (Kd.V_elder' (by (with_reducible repeat (first | apply Kd.V_alloc | apply Kd.V_drewN | apply Kd.V_drew)); exact HO_0.out) (by first | exact Kd.N_base ho19 | exact Kd.S_base ho19 | exact Kd.R_base ho19) hb); have n1_ := Zm (Kd.V_elder' (by (with_reducible repeat (first | apply Kd.V_alloc | apply Kd.V_drewN | apply Kd.V_drew)); exact HO_1.out) (by first | exact Kd.N_base ho19 | exact Kd.S_base ho19 | exact Kd.R_base ho19) hb); have n2_ := Zm (Kd.V_elder' (by (with_reducible repeat (first | apply Kd.V_alloc | apply Kd.V_drewN | apply Kd.V_drew)); exact HO_2.out) (by first | exact Kd.N_base ho19 | exact Kd.S_base ho19 | exact Kd.R_base ho19) hb); have n3_ := Zm (Kd.N_elder' (by (with_reducible repeat (first | apply Kd.N_alloc | apply Kd.N_drewN | apply Kd.N_drew)); exact HO314.out) (by first | exact Kd.N_base ho19 | exact Kd.S_base ho19 | exact Kd.R_base ho19) hb); have n4_ := Zm (Kd.N_elder' (by (with_reducible repeat (first | apply Kd.N_alloc | apply Kd.N_drewN | apply Kd.N_drew)); exact HO317.out) (by first | exact Kd.N_base ho19 | exact Kd.S_base ho19 | exact Kd.R_base ho19) hb); have n5_ := Zm (Kd.N_lower ho19 (below_size (by repeat (first | (with_reducible first | exact HB.out | apply below_alloc | apply Zd | apply below_drew1) | exact HB.out)))); have n6_ := Zm (below_step (by repeat (first | (with_reducible first | exact HB.out | apply below_alloc | apply Zd | apply below_drew1) | exact HB.out)) hb); clear HO_0; clear HO_1; clear HO_2; clear HO314; clear HO317; clear HB; have HO_0 := n0_; have HO_1 := n1_; have HO_2 := n2_; have HO314 := n3_; have HO317 := n4_; have HO320 := n5_; have HB := n6_; clear n0_ n1_ n2_ n3_ n4_ n5_ n6_; clear hb ho19; obtain ⟨Ao20, co20, eo20⟩ := Kd.N_slice HO320.out; subst eo20) | (go_at_call 17; (with_reducible refine (r05_Numbers.calls kj5 _ _ y318 t321 _ ?side1 ?side2 A12.out).mono ?_); (case side1 => repeat (first | exact (Kd.N_reads' HO320.out).2.2 | (with_reducible refine Kd.C_alloc ?_ _) | (with_reducible refine Kd.C_drewN ?_ _) | (with_reducible refine Kd.C_drew ?_))); (case side2 => exact (Kd.N_reads' HO320.out).2.1); rintro e w21 ⟨v322, rfl, ho0, hb⟩; have n0_ := Zm (Kd.V_elder' (by (with_reducible repeat (first | apply Kd.V_alloc | apply Kd.V_drewN | apply Kd.V_drew)); exact HO_0.out) (by first | exact Kd.N_base ho0 | exact Kd.S_base ho0 | exact Kd.R_base ho0) hb); have n1_ := Zm (Kd.V_elder' (by (with_reducible repeat (first | apply Kd.V_alloc | apply Kd.V_drewN | apply Kd.V_drew)); exact HO_1.out) (by first | exact Kd.N_base ho0 | exact Kd.S_base ho0 | exact Kd.R_base ho0) hb); have n2_ := Zm (Kd.V_elder' (by (with_reducible repeat (first | apply Kd.V_alloc | apply Kd.V_drewN | apply Kd.V_drew)); exact HO_2.out) (by first | exact Kd.N_base ho0 | exact Kd.S_base ho0 | exact Kd.R_base ho0) hb); have n3_ := Zm (Kd.N_elder' (by (with_reducible repeat (first | apply Kd.N_alloc | apply Kd.N_drewN | apply Kd.N_drew)); exact HO314.out) (by first | exact Kd.N_base ho0 | exact Kd.S_base ho0 | exact Kd.R_base ho0) hb); have n4_ := Zm (Kd.N_elder' (by (with_reducible repeat (first | apply Kd.N_alloc | apply Kd.N_drewN | apply Kd.N_drew)); exact HO317.out) (by first | exact Kd.N_base ho0 | exact Kd.S_base ho0 | exact Kd.R_base ho0) hb); have n5_ := Zm (Kd.N_elder' (by (with_reducible repeat (first | apply Kd.N_alloc | apply Kd.N_drewN | apply Kd.N_drew)); exact HO320.out) (by first | exact Kd.N_base ho0 | exact Kd.S_base ho0 | exact Kd.R_base ho0) hb); have n6_ := Zm (Kd.N_lower (Kd.N_mono (ok' := fun k_ => ((P0_ k_ ∨ P1_ k_ ∨ P2_ k_) ∨ w.heap.size ≤ k_) ∧ some k_ ≠ (.slice Ao16 y312.length co16 : Value).ownBlock ∧ some k_ ≠ (v316 : Value).ownBlock ∧ some k_ ≠ (.slice Ao20 y318.length co20 : Value).ownBlock) (Kd.S_N (Kd.S_bound ho0)) (fun k_ hk_ => ⟨(.inr (Nat.le_trans (below_size (by repeat (first | (with_reducible first | exact HB.out | apply below_alloc | apply Zd | apply below_drew1) | exact HB.out))) hk_.2.1)), (Kd.fresh' (Kd.N_lt (by (with_reducible repeat (first | apply Kd.N_alloc | apply Kd.N_drewN | apply Kd.N_drew)); exact HO314.out)) k_ hk_.2.1), (Kd.fresh' (Kd.N_lt (by (with_reducible repeat (first | apply Kd.N_alloc | apply Kd.N_drewN | apply Kd.N_drew)); exact HO317.out)) k_ hk_.2.1), (Kd.fresh' (Kd.N_lt (by (with_reducible repeat (first | apply Kd.N_alloc | apply Kd.N_drewN | apply Kd.N_drew)); exact HO320.out)) k_ hk_.2.1)⟩)) (below_size (by repeat (first | (with_reducible first | exact HB.out | apply below_alloc | apply Zd | apply below_drew1) | exact HB.out)))); have n7_ := Zm (below_step (by repeat (first | (with_reducible first | exact HB.out | apply below_alloc | apply Zd | apply below_drew1) | exact HB.out)) hb); clear HO_0; clear HO_1; clear HO_2; clear HO314; clear HO317; clear HO320; clear HB; have HO_0 := n0_; have HO_1 := n1_; have HO_2 := n2_; have HO314 := n3_; have HO317 := n4_; have HO320 := n5_; have HO323 := n6_; have HB := n7_; clear n0_ n1_ n2_ n3_ n4_ n5_ n6_ n7_; (try clear hb); (try clear hb2); (try clear hk); (try clear hi); (try clear ho0); obtain ⟨Ao22, co22, eo22⟩ := Kd.N_slice HO317.out; subst eo22)); try go_wp2_with (first | ((with_reducible refine gate_dst (N := 30) rfl ?_); (try (refine gate_guard (by rfl) ?_; dsimp only)); refine Kd.N_lit (Kd.slice 9 Kd.string) _ 27 ?hg (N' := 30) ?hd (xs := ([l0, l1, l2] : List (List ByteArray))) (inner := [.slice A0 l0.length c0, .slice A1 l1.length c1, .slice A2 l2.length c2]) (ok := (fun k_ => ((P0_ k_ ∨ P1_ k_ ∨ P2_ k_) ∨ w.heap.size ≤ k_))) (okp := (fun k_ => ((P0_ k_ ∨ P1_ k_ ∨ P2_ k_) ∨ w.heap.size ≤ k_))) ?hr ?hp (fun _ hk => hk) ((show ∀ k_, wc.heap.size ≤ k_ → (fun k_ => ((P0_ k_ ∨ P1_ k_ ∨ P2_ k_) ∨ w.heap.size ≤ k_)) k_ from fun k_ hk => (.inr (Nat.le_trans (below_size (by repeat (first | (with_reducible first | exact HB.out | apply below_alloc | apply Zd | apply below_drew1) | exact HB.out))) hk))) _ (Nat.le_refl _)) (Below.refl _ _) (Nat.le_refl _) (by simp) ?_; (case hd => rfl); (case hg => rfl); (case hr => first | (go_simp; done) | (go_simp; rfl)); (case hp => exact (Reps.one (show Kd.FK (Kd.slice 9 Kd.string) _ _ l0 [.slice A0 l0.length c0] from (Kd.FK_slice_mk (Kd.V_reads' (Kd.V_mono (ok' := (fun k_ => ((P0_ k_ ∨ P1_ k_ ∨ P2_ k_) ∨ w.heap.size ≤ k_))) (HO_0.out) (fun k_ hk => hk))).2.1 (Kd.V_F (Kd.V_mono (ok' := (fun k_ => ((P0_ k_ ∨ P1_ k_ ∨ P2_ k_) ∨ w.heap.size ≤ k_))) (HO_0.out) (fun k_ hk => hk))))) (Reps.one (show Kd.FK (Kd.slice 9 Kd.string) _ _ l1 [.slice A1 l1.length c1] from (Kd.FK_slice_mk (Kd.V_reads' (Kd.V_mono (ok' := (fun k_ => ((P0_ k_ ∨ P1_ k_ ∨ P2_ k_) ∨ w.heap.size ≤ k_))) (HO_1.out) (fun k_ hk => hk))).2.1 (Kd.V_F (Kd.V_mono (ok' := (fun k_ => ((P0_ k_ ∨ P1_ k_ ∨ P2_ k_) ∨ w.heap.size ≤ k_))) (HO_1.out) (fun k_ hk => hk))))) (Reps.one (show Kd.FK (Kd.slice 9 Kd.string) _ _ l2 [.slice A2 l2.length c2] from (Kd.FK_slice_mk (Kd.V_reads' (Kd.V_mono (ok' := (fun k_ => ((P0_ k_ ∨ P1_ k_ ∨ P2_ k_) ∨ w.heap.size ≤ k_))) (HO_2.out) (fun k_ hk => hk))).2.1 (Kd.V_F (Kd.V_mono (ok' := (fun k_ => ((P0_ k_ ∨ P1_ k_ ∨ P2_ k_) ∨ w.heap.size ≤ k_))) (HO_2.out) (fun k_ hk => hk))))) (Reps.none _ _))))); intro v313 w14 ho15 hb hg_ hnew_; clear hg_ hnew_; (first | rw [← Ny312.out] at ho15 | (simp only [Int.reduceToNat] at ho15; rw [← Ny312.out] at ho15)); have n0_ := Zm (Kd.V_elder' (by (with_reducible repeat (first | apply Kd.V_alloc | apply Kd.V_drewN | apply Kd.V_drew)); exact HO_0.out) (by first | exact Kd.N_base ho15 | exact Kd.S_base ho15 | exact Kd.R_base ho15) hb); have n1_ := Zm (Kd.V_elder' (by (with_reducible repeat (first | apply Kd.V_alloc | apply Kd.V_drewN | apply Kd.V_drew)); exact HO_1.out) (by first | exact Kd.N_base ho15 | exact Kd.S_base ho15 | exact Kd.R_base ho15) hb); have n2_ := Zm (Kd.V_elder' (by (with_reducible repeat (first | apply Kd.V_alloc | apply Kd.V_drewN | apply Kd.V_drew)); exact HO_2.out) (by first | exact Kd.N_base ho15 | exact Kd.S_base ho15 | exact Kd.R_base ho15) hb); have n3_ := Zm (Kd.N_lower ho15 (below_size (by repeat (first | (with_reducible first | exact HB.out | apply below_alloc | apply Zd | apply below_drew1) | exact HB.out)))); have n4_ := Zm (below_step (by repeat (first | (with_reducible first | exact HB.out | apply below_alloc | apply Zd | apply below_drew1) | exact HB.out)) hb); clear HO_0; clear HO_1; clear HO_2; clear HB; have HO_0 := n0_; have HO_1 := n1_; have HO_2 := n2_; have HO314 := n3_; have HB := n4_; clear n0_ n1_ n2_ n3_ n4_; clear hb ho15; obtain ⟨Ao16, co16, eo16⟩ := Kd.N_slice HO314.out; subst eo16) | (go_at_call 16; (with_reducible refine (lcs_Numbers.calls kj5 _ _ y312 t315 _ ?side1 ?side2 A11.out).mono ?_); (case side1 => repeat (first | exact (Kd.N_reads' HO314.out).2.2 | (with_reducible refine Kd.C_alloc ?_ _) | (with_reducible refine Kd.C_drewN ?_ _) | (with_reducible refine Kd.C_drew ?_))); (case side2 => exact (Kd.N_reads' HO314.out).2.1); rintro e w17 ⟨v316, rfl, ho0, hb⟩; have n0_ := Zm (Kd.V_elder' (by (with_reducible repeat (first | apply Kd.V_alloc | apply Kd.V_drewN | apply Kd.V_drew)); exact HO_0.out) (by first | exact Kd.N_base ho0 | exact Kd.S_base ho0 | exact Kd.R_base ho0) hb); have n1_ := Zm (Kd.V_elder' (by (with_reducible repeat (first | apply Kd.V_alloc | apply Kd.V_drewN | apply Kd.V_drew)); exact HO_1.out) (by first | exact Kd.N_base ho0 | exact Kd.S_base ho0 | exact Kd.R_base ho0) hb); have n2_ := Zm (Kd.V_elder' (by (with_reducible repeat (first | apply Kd.V_alloc | apply Kd.V_drewN | apply Kd.V_drew)); exact HO_2.out) (by first | exact Kd.N_base ho0 | exact Kd.S_base ho0 | exact Kd.R_base ho0) hb); have n3_ := Zm (Kd.N_elder' (by (with_reducible repeat (first | apply Kd.N_alloc | apply Kd.N_drewN | apply Kd.N_drew)); exact HO314.out) (by first | exact Kd.N_base ho0 | exact Kd.S_base ho0 | exact Kd.R_base ho0) hb); have n4_ := Zm (Kd.N_lower (Kd.N_mono (ok' := fun k_ => ((P0_ k_ ∨ P1_ k_ ∨ P2_ k_) ∨ w.heap.size ≤ k_) ∧ some k_ ≠ (.slice Ao16 y312.length co16 : Value).ownBlock) (Kd.S_N (Kd.S_bound ho0)) (fun k_ hk_ => ⟨(.inr (Nat.le_trans (below_size (by repeat (first | (with_reducible first | exact HB.out | apply below_alloc | apply Zd | apply below_drew1) | exact HB.out))) hk_.2.1)), (Kd.fresh' (Kd.N_lt (by (with_reducible repeat (first | apply Kd.N_alloc | apply Kd.N_drewN | apply Kd.N_drew)); exact HO314.out)) k_ hk_.2.1)⟩)) (below_size (by repeat (first | (with_reducible first | exact HB.out | apply below_alloc | apply Zd | apply below_drew1) | exact HB.out)))); have n5_ := Zm (below_step (by repeat (first | (with_reducible first | exact HB.out | apply below_alloc | apply Zd | apply below_drew1) | exact HB.out)) hb); clear HO_0; clear HO_1; clear HO_2; clear HO314; clear HB; have HO_0 := n0_; have HO_1 := n1_; have HO_2 := n2_; have HO314 := n3_; have HO317 := n4_; have HB := n5_; clear n0_ n1_ n2_ n3_ n4_ n5_; (try clear hb); (try clear hb2); (try clear hk); (try clear hi); (try clear ho0)) | ((with_reducible refine gate_dst (N := 35) rfl ?_); (try (refine gate_guard (by rfl) ?_; dsimp only)); refine Kd.N_lit (Kd.slice 9 Kd.string) _ 27 ?hg (N' := 35) ?hd (xs := ([l0, l1, l2] : List (List ByteArray))) (inner := [.slice A0 l0.length c0, .slice A1 l1.length c1, .slice A2 l2.length c2]) (ok := (fun k_ => ((P0_ k_ ∨ P1_ k_ ∨ P2_ k_) ∨ w.heap.size ≤ k_) ∧ some k_ ≠ (.slice Ao16 y312.length co16 : Value).ownBlock ∧ some k_ ≠ (v316 : Value).ownBlock)) (okp := (fun k_ => ((P0_ k_ ∨ P1_ k_ ∨ P2_ k_) ∨ w.heap.size ≤ k_) ∧ some k_ ≠ (.slice Ao16 y312.length co16 : Value).ownBlock ∧ some k_ ≠ (v316 : Value).ownBlock)) ?hr ?hp (fun _ hk => hk) ((show ∀ k_, w17.heap.size ≤ k_ → (fun k_ => ((P0_ k_ ∨ P1_ k_ ∨ P2_ k_) ∨ w.heap.size ≤ k_) ∧ some k_ ≠ (.slice Ao16 y312.length co16 : Value).ownBlock ∧ some k_ ≠ (v316 : Value).ownBlock) k_ from fun k_ hk => ⟨(.inr (Nat.le_trans (below_size (by repeat (first | (with_reducible first | exact HB.out | apply below_alloc | apply Zd | apply below_drew1) | exact HB.out))) hk)), Kd.fresh' (Kd.N_lt (by (with_reducible repeat (first | apply Kd.N_alloc | apply Kd.N_drewN | apply Kd.N_drew)); exact HO314.out)) k_ hk, Kd.fresh' (Kd.N_lt (by (with_reducible repeat (first | apply Kd.N_alloc | apply Kd.N_drewN | apply Kd.N_drew)); exact HO317.out)) k_ hk⟩) _ (Nat.le_refl _)) (Below.refl _ _) (Nat.le_refl _) (by simp) ?_; (case hd => rfl); (case hg => rfl); (case hr => first | (go_simp; done) | (go_simp; rfl)); (case hp => exact (Reps.one (show Kd.FK (Kd.slice 9 Kd.string) _ _ l0 [.slice A0 l0.length c0] from (Kd.FK_slice_mk (Kd.V_reads' (Kd.V_mono (ok' := (fun k_ => ((P0_ k_ ∨ P1_ k_ ∨ P2_ k_) ∨ w.heap.size ≤ k_) ∧ some k_ ≠ (.slice Ao16 y312.length co16 : Value).ownBlock ∧ some k_ ≠ (v316 : Value).ownBlock)) (HO_0.out) (fun k_ hk => ⟨hk.1.1, ⟨hk.1.2, hk.2⟩⟩))).2.1 (Kd.V_F (Kd.V_mono (ok' := (fun k_ => ((P0_ k_ ∨ P1_ k_ ∨ P2_ k_) ∨ w.heap.size ≤ k_) ∧ some k_ ≠ (.slice Ao16 y312.length co16 : Value).ownBlock ∧ some k_ ≠ (v316 : Value).ownBlock)) (HO_0.out) (fun k_ hk => ⟨hk.1.1, ⟨hk.1.2, hk.2⟩⟩))))) (Reps.one (show Kd.FK (Kd.slice 9 Kd.string) _ _ l1 [.slice A1 l1.length c1] from (Kd.FK_slice_mk (Kd.V_reads' (Kd.V_mono (ok' := (fun k_ => ((P0_ k_ ∨ P1_ k_ ∨ P2_ k_) ∨ w.heap.size ≤ k_) ∧ some k_ ≠ (.slice Ao16 y312.length co16 : Value).ownBlock ∧ some k_ ≠ (v316 : Value).ownBlock)) (HO_1.out) (fun k_ hk => ⟨hk.1.1, ⟨hk.1.2, hk.2⟩⟩))).2.1 (Kd.V_F (Kd.V_mono (ok' := (fun k_ => ((P0_ k_ ∨ P1_ k_ ∨ P2_ k_) ∨ w.heap.size ≤ k_) ∧ some k_ ≠ (.slice Ao16 y312.length co16 : Value).ownBlock ∧ some k_ ≠ (v316 : Value).ownBlock)) (HO_1.out) (fun k_ hk => ⟨hk.1.1, ⟨hk.1.2, hk.2⟩⟩))))) (Reps.one (show Kd.FK (Kd.slice 9 Kd.string) _ _ l2 [.slice A2 l2.length c2] from (Kd.FK_slice_mk (Kd.V_reads' (Kd.V_mono (ok' := (fun k_ => ((P0_ k_ ∨ P1_ k_ ∨ P2_ k_) ∨ w.heap.size ≤ k_) ∧ some k_ ≠ (.slice Ao16 y312.length co16 : Value).ownBlock ∧ some k_ ≠ (v316 : Value).ownBlock)) (HO_2.out) (fun k_ hk => ⟨hk.1.1, ⟨hk.1.2, hk.2⟩⟩))).2.1 (Kd.V_F (Kd.V_mono (ok' := (fun k_ => ((P0_ k_ ∨ P1_ k_ ∨ P2_ k_) ∨ w.heap.size ≤ k_) ∧ some k_ ≠ (.slice Ao16 y312.length co16 : Value).ownBlock ∧ some k_ ≠ (v316 : Value).ownBlock)) (HO_2.out) (fun k_ hk => ⟨hk.1.1, ⟨hk.1.2, hk.2⟩⟩))))) (Reps.none _ _))))); intro v319 w18 ho19 hb hg_ hnew_; clear hg_ hnew_; (first | rw [← Ny318.out] at ho19 | (simp only [Int.reduceToNat] at ho19; rw [← Ny318.out] at ho19)); have n0_ := Zm (Kd.V_elder' (by (with_reducible repeat (first | apply Kd.V_alloc | apply Kd.V_drewN | apply Kd.V_drew)); exact HO_0.out) (by first | exact Kd.N_base ho19 | exact Kd.S_base ho19 | exact Kd.R_base ho19) hb); have n1_ := Zm (Kd.V_elder' (by (with_reducible repeat (first | apply Kd.V_alloc | apply Kd.V_drewN | apply Kd.V_drew)); exact HO_1.out) (by first | exact Kd.N_base ho19 | exact Kd.S_base ho19 | exact Kd.R_base ho19) hb); have n2_ := Zm (Kd.V_elder' (by (with_reducible repeat (first | apply Kd.V_alloc | apply Kd.V_drewN | apply Kd.V_drew)); exact HO_2.out) (by first | exact Kd.N_base ho19 | exact Kd.S_base ho19 | exact Kd.R_base ho19) hb); have n3_ := Zm (Kd.N_elder' (by (with_reducible repeat (first | apply Kd.N_alloc | apply Kd.N_drewN | apply Kd.N_drew)); exact HO314.out) (by first | exact Kd.N_base ho19 | exact Kd.S_base ho19 | exact Kd.R_base ho19) hb); have n4_ := Zm (Kd.N_elder' (by (with_reducible repeat (first | apply Kd.N_alloc | apply Kd.N_drewN | apply Kd.N_drew)); exact HO317.out) (by first | exact Kd.N_base ho19 | exact Kd.S_base ho19 | exact Kd.R_base ho19) hb); have n5_ := Zm (Kd.N_lower ho19 (below_size (by repeat (first | (with_reducible first | exact HB.out | apply below_alloc | apply Zd | apply below_drew1) | exact HB.out)))); have n6_ := Zm (below_step (by repeat (first | (with_reducible first | exact HB.out | apply below_alloc | apply Zd | apply below_drew1) | exact HB.out)) hb); clear HO_0; clear HO_1; clear HO_2; clear HO314; clear HO317; clear HB; have HO_0 := n0_; have HO_1 := n1_; have HO_2 := n2_; have HO314 := n3_; have HO317 := n4_; have HO320 := n5_; have HB := n6_; clear n0_ n1_ n2_ n3_ n4_ n5_ n6_; clear hb ho19; obtain ⟨Ao20, co20, eo20⟩ := Kd.N_slice HO320.out; subst eo20) | (go_at_call 17; (with_reducible refine (r05_Numbers.calls kj5 _ _ y318 t321 _ ?side1 ?side2 A12.out).mono ?_); (case side1 => repeat (first | exact (Kd.N_reads' HO320.out).2.2 | (with_reducible refine Kd.C_alloc ?_ _) | (with_reducible refine Kd.C_drewN ?_ _) | (with_reducible refine Kd.C_drew ?_))); (case side2 => exact (Kd.N_reads' HO320.out).2.1); rintro e w21 ⟨v322, rfl, ho0, hb⟩; have n0_ := Zm (Kd.V_elder' (by (with_reducible repeat (first | apply Kd.V_alloc | apply Kd.V_drewN | apply Kd.V_drew)); exact HO_0.out) (by first | exact Kd.N_base ho0 | exact Kd.S_base ho0 | exact Kd.R_base ho0) hb); have n1_ := Zm (Kd.V_elder' (by (with_reducible repeat (first | apply Kd.V_alloc | apply Kd.V_drewN | apply Kd.V_drew)); exact HO_1.out) (by first | exact Kd.N_base ho0 | exact Kd.S_base ho0 | exact Kd.R_base ho0) hb); have n2_ := Zm (Kd.V_elder' (by (with_reducible repeat (first | apply Kd.V_alloc | apply Kd.V_drewN | apply Kd.V_drew)); exact HO_2.out) (by first | exact Kd.N_base ho0 | exact Kd.S_base ho0 | exact Kd.R_base ho0) hb); have n3_ := Zm (Kd.N_elder' (by (with_reducible repeat (first | apply Kd.N_alloc | apply Kd.N_drewN | apply Kd.N_drew)); exact HO314.out) (by first | exact Kd.N_base ho0 | exact Kd.S_base ho0 | exact Kd.R_base ho0) hb); have n4_ := Zm (Kd.N_elder' (by (with_reducible repeat (first | apply Kd.N_alloc | apply Kd.N_drewN | apply Kd.N_drew)); exact HO317.out) (by first | exact Kd.N_base ho0 | exact Kd.S_base ho0 | exact Kd.R_base ho0) hb); have n5_ := Zm (Kd.N_elder' (by (with_reducible repeat (first | apply Kd.N_alloc | apply Kd.N_drewN | apply Kd.N_drew)); exact HO320.out) (by first | exact Kd.N_base ho0 | exact Kd.S_base ho0 | exact Kd.R_base ho0) hb); have n6_ := Zm (Kd.N_lower (Kd.N_mono (ok' := fun k_ => ((P0_ k_ ∨ P1_ k_ ∨ P2_ k_) ∨ w.heap.size ≤ k_) ∧ some k_ ≠ (.slice Ao16 y312.length co16 : Value).ownBlock ∧ some k_ ≠ (v316 : Value).ownBlock ∧ some k_ ≠ (.slice Ao20 y318.length co20 : Value).ownBlock) (Kd.S_N (Kd.S_bound ho0)) (fun k_ hk_ => ⟨(.inr (Nat.le_trans (below_size (by repeat (first | (with_reducible first | exact HB.out | apply below_alloc | apply Zd | apply below_drew1) | exact HB.out))) hk_.2.1)), (Kd.fresh' (Kd.N_lt (by (with_reducible repeat (first | apply Kd.N_alloc | apply Kd.N_drewN | apply Kd.N_drew)); exact HO314.out)) k_ hk_.2.1), (Kd.fresh' (Kd.N_lt (by (with_reducible repeat (first | apply Kd.N_alloc | apply Kd.N_drewN | apply Kd.N_drew)); exact HO317.out)) k_ hk_.2.1), (Kd.fresh' (Kd.N_lt (by (with_reducible repeat (first | apply Kd.N_alloc | apply Kd.N_drewN | apply Kd.N_drew)); exact HO320.out)) k_ hk_.2.1)⟩)) (below_size (by repeat (first | (with_reducible first | exact HB.out | apply below_alloc | apply Zd | apply below_drew1) | exact HB.out)))); have n7_ := Zm (below_step (by repeat (first | (with_reducible first | exact HB.out | apply below_alloc | apply Zd | apply below_drew1) | exact HB.out)) hb); clear HO_0; clear HO_1; clear HO_2; clear HO314; clear HO317; clear HO320; clear HB; have HO_0 := n0_; have HO_1 := n1_; have HO_2 := n2_; have HO314 := n3_; have HO317 := n4_; have HO320 := n5_; have HO323 := n6_; have HB := n7_; clear n0_ n1_ n2_ n3_ n4_ n5_ n6_ n7_; (try clear hb); (try clear hb2); (try clear hk); (try clear hi); (try clear ho0); obtain ⟨Ao22, co22, eo22⟩ := Kd.N_slice HO317.out; subst eo22)))
            go_loopg [10] kj5 (fun kq v10 w' => ∃ (x10_2 : Int), v10 = .int .i64 x10_2 ∧ Aside0 (l05_LcsNumbers.l0 kq l0 l1 t315 t321 x10_2 = some r) ∧ Aside0 (kq ≤ kj5) ∧ Aside0 (Kd.V Kd.string 9 w' w.heap.size (fun k_ => ((P0_ k_ ∨ P1_ k_ ∨ P2_ k_) ∨ w.heap.size ≤ k_) ∧ some k_ ≠ ((.slice Ao22 t315.length co22) : Value).ownBlock ∧ some k_ ≠ (v322 : Value).ownBlock) (.slice A0 l0.length c0) l0) ∧ Aside0 (Kd.V Kd.string 9 w' w.heap.size (fun k_ => ((P0_ k_ ∨ P1_ k_ ∨ P2_ k_) ∨ w.heap.size ≤ k_) ∧ some k_ ≠ ((.slice Ao22 t315.length co22) : Value).ownBlock ∧ some k_ ≠ (v322 : Value).ownBlock) (.slice A1 l1.length c1) l1) ∧ Aside0 (Kd.N (Kd.slice 3 (Kd.int .i64)) 22 w' w.heap.size (fun k_ => ((P0_ k_ ∨ P1_ k_ ∨ P2_ k_) ∨ w.heap.size ≤ k_) ∧ some k_ ≠ (v322 : Value).ownBlock) (.slice Ao22 t315.length co22) t315) ∧ Aside0 (Kd.N (Kd.slice 3 (Kd.int .i64)) 22 w' w.heap.size (fun k_ => ((P0_ k_ ∨ P1_ k_ ∨ P2_ k_) ∨ w.heap.size ≤ k_) ∧ some k_ ≠ ((.slice Ao22 t315.length co22) : Value).ownBlock) v322 t321) ∧ Aside0 (Below w.heap.size w w'))
            case atStart => exact ⟨(0), (by first | rfl | (simp; done) | (simp [*]; done)), H', ⟨Nat.le_refl _⟩, ⟨by (with_reducible repeat (first | apply Kd.V_alloc | apply Kd.V_drewN | apply Kd.V_drew)); exact Kd.V_mono HO_0.out (fun _ hk => ⟨hk.1.1.1.1, ⟨hk.1.1.2, hk.2⟩⟩)⟩, ⟨by (with_reducible repeat (first | apply Kd.V_alloc | apply Kd.V_drewN | apply Kd.V_drew)); exact Kd.V_mono HO_1.out (fun _ hk => ⟨hk.1.1.1.1, ⟨hk.1.1.2, hk.2⟩⟩)⟩, ⟨by (with_reducible repeat (first | apply Kd.N_alloc | apply Kd.N_drewN | apply Kd.N_drew)); exact Kd.N_mono HO317.out (fun _ hk => ⟨hk.1.1.1, hk.2⟩)⟩, ⟨by (with_reducible repeat (first | apply Kd.N_alloc | apply Kd.N_drewN | apply Kd.N_drew)); exact Kd.N_mono HO323.out (fun _ hk => ⟨hk.1, hk.2.2.1⟩)⟩, ⟨by repeat (first | (with_reducible first | exact HB.out | apply below_alloc | apply Zd | apply below_drew1) | exact HB.out)⟩⟩
            case round =>
              clear H'
              try clear c1
              try clear c2
              try clear p2
              try clear c4
              try clear c5
              try clear c8
              try clear c8b0
              try clear c8b1
              try clear c9
              try clear c9b0
              try clear c9b1
              try clear c10
              try clear c13
              try clear c13b0
              try clear c13b1
              try clear p2
              obtain ⟨x10_2, rfl, HA, HK2, HO_0, HO_1, HO_8, HO_9, HB⟩ := hrel
              cases gk with
              | zero => exact absurd HA.out (by simp [l05_LcsNumbers.l0])
              | succ k2 =>
                have H := HA.out
                clear HA
                simp only [l05_LcsNumbers.l0] at H
                by_cases c23 : x10_2 < 3
                · rw [if_pos c23] at H
                  have c23b0 : decide (x10_2 < 3) = true := decide_eq_true c23
                  clear c23
                  by_cases c24 : 0 ≤ x10_2
                  · rw [if_pos c24] at H
                    have c24b0 : decide (0 ≤ x10_2) = true := decide_eq_true c24
                    clear c24
                    by_cases c25 : x10_2 < (t315.length : Int)
                    · rw [if_pos c25] at H
                      have c25b0 : decide (x10_2 < (t315.length : Int)) = true := decide_eq_true c25
                      clear c25
                      by_cases c26 : x10_2 < (t321.length : Int)
                      · rw [if_pos c26] at H
                        have c26b0 : decide (x10_2 < (t321.length : Int)) = true := decide_eq_true c26
                        clear c26
                        replace H := Option.bind_eq_some_iff.mp H
                        obtain ⟨t326, A270, H⟩ := H
                        replace H : (if t326 = true then (l05_LcsNumbers.l0 k2 l0 l1 t315 t321 (wrap64 (x10_2 + 1))) else (none)) = some r := H
                        have A27 := Zm A270
                        clear A270
                        by_cases c28 : t326 = true
                        · subst c28
                          have H1 : (l05_LcsNumbers.l0 k2 l0 l1 t315 t321 (wrap64 (x10_2 + 1))) = some r := by rw [if_pos rfl] at H; exact H
                          clear H
                          have H := H1
                          clear H1
                          have H' := Zm H
                          clear H
                          have p324 : 0 ≤ (x10_2 : Int) := Zo (by first | (with_reducible assumption) | assumption)
                          have q324 : x10_2 < (t315.length : Int) := Zo (by first | (with_reducible assumption) | assumption)
                          obtain ⟨ad324, A324_0, c324_0, e324, hx324_0, hl324_0, hi324_0⟩ := at_L6 (Kd.N_reads' HO_8.out).2.2 x10_2 p324 q324
                          cases e324
                          obtain ⟨ce324, hce324, hMe324, hcc324⟩ := Kd.N_get HO_8.out [] x10_2 p324 (by first | exact q324 | exact Zo (by first | (with_reducible assumption) | assumption) | (have e_ := (Kd.N_reads' HO_8.out).1; omega))
                          obtain ⟨ua324_0, uc324_0, rfl, ul324_0, ge324_0⟩ := Kd.FK_slice_open hMe324
                          have hv324_0 := hcc324 0 _ rfl
                          rw [Nat.add_zero, show ((Kd.slice 3 (Kd.int .i64))).sz = 1 from rfl, Nat.mul_one] at hv324_0
                          replace hv324_0 := Option.some.inj (hv324_0.symm.trans hx324_0)
                          injection hv324_0 with hva_ hvn_ hvc_
                          rw [hva_] at ge324_0
                          rw [hvc_] at ul324_0
                          have HL324_0 := Zm (show Kd.V (Kd.int .i64) 3 _ w.heap.size _ _ (rd_L6 t315 x10_2) from Kd.V_mk ul324_0 ge324_0)
                          clear hva_ hvn_ hvc_ ge324_0 ul324_0
                          clear hcc324 hce324
                          have HR324_0 := Zm hi324_0
                          have HC324_0 := Zm hl324_0
                          clear hi324_0 hl324_0
                          replace p324 := eq_true p324
                          replace q324 := eq_true q324
                          obtain ⟨Ao29, co29, eo29⟩ := Kd.N_slice HO_9.out
                          subst eo29
                          have p325 : 0 ≤ (x10_2 : Int) := Zo (by first | (with_reducible assumption) | assumption)
                          have q325 : x10_2 < (t321.length : Int) := Zo (by first | (with_reducible assumption) | assumption)
                          obtain ⟨ad325, A325_0, c325_0, e325, hx325_0, hl325_0, hi325_0⟩ := at_L6 (Kd.N_reads' HO_9.out).2.2 x10_2 p325 q325
                          cases e325
                          obtain ⟨ce325, hce325, hMe325, hcc325⟩ := Kd.N_get HO_9.out [] x10_2 p325 (by first | exact q325 | exact Zo (by first | (with_reducible assumption) | assumption) | (have e_ := (Kd.N_reads' HO_9.out).1; omega))
                          obtain ⟨ua325_0, uc325_0, rfl, ul325_0, ge325_0⟩ := Kd.FK_slice_open hMe325
                          have hv325_0 := hcc325 0 _ rfl
                          rw [Nat.add_zero, show ((Kd.slice 3 (Kd.int .i64))).sz = 1 from rfl, Nat.mul_one] at hv325_0
                          replace hv325_0 := Option.some.inj (hv325_0.symm.trans hx325_0)
                          injection hv325_0 with hva_ hvn_ hvc_
                          rw [hva_] at ge325_0
                          rw [hvc_] at ul325_0
                          have HL325_0 := Zm (show Kd.V (Kd.int .i64) 3 _ w.heap.size _ _ (rd_L6 t321 x10_2) from Kd.V_mk ul325_0 ge325_0)
                          clear hva_ hvn_ hvc_ ge325_0 ul325_0
                          clear hcc325 hce325
                          have HR325_0 := Zm hi325_0
                          have HC325_0 := Zm hl325_0
                          clear hi325_0 hl325_0
                          replace p325 := eq_true p325
                          replace q325 := eq_true q325
                          go_wp2_with (first | (go_at_call 9; (with_reducible refine (r05_Same.calls k2 _ _ (rd_L6 t315 x10_2) _ _ (rd_L6 t321 x10_2) true _ ?side1 ?side2 ?side3 ?side4 A27.out).mono ?_); (case side1 => repeat (first | exact (by repeat (first | (with_reducible exact HR324_0.out) | (with_reducible refine Kd.C_alloc ?_ _) | (with_reducible refine Kd.C_drewN ?_ _) | (with_reducible refine Kd.C_drew ?_) | exact HR324_0.out)) | (with_reducible refine Kd.C_alloc ?_ _) | (with_reducible refine Kd.C_drewN ?_ _) | (with_reducible refine Kd.C_drew ?_))); (case side2 => exact HC324_0.out); (case side3 => repeat (first | exact (by repeat (first | (with_reducible exact HR325_0.out) | (with_reducible refine Kd.C_alloc ?_ _) | (with_reducible refine Kd.C_drewN ?_ _) | (with_reducible refine Kd.C_drew ?_) | exact HR325_0.out)) | (with_reducible refine Kd.C_alloc ?_ _) | (with_reducible refine Kd.C_drewN ?_ _) | (with_reducible refine Kd.C_drew ?_))); (case side4 => exact HC325_0.out); rintro e w' ⟨rfl, ⟨nd, rfl⟩⟩; (try first | exact ⟨rfl, _, World.drewN_drewN _ _ _⟩ | exact ⟨rfl, _, Eq.trans (World.drewN_drewN _ _ _) (congrArg (World.drewN _) (Nat.add_assoc _ _ _))⟩)))
                          repeat (go_quiet (first | (go_at_call 9; (with_reducible refine (r05_Same.calls k2 _ _ (rd_L6 t315 x10_2) _ _ (rd_L6 t321 x10_2) true _ ?side1 ?side2 ?side3 ?side4 A27.out).mono ?_); (case side1 => repeat (first | exact (by repeat (first | (with_reducible exact HR324_0.out) | (with_reducible refine Kd.C_alloc ?_ _) | (with_reducible refine Kd.C_drewN ?_ _) | (with_reducible refine Kd.C_drew ?_) | exact HR324_0.out)) | (with_reducible refine Kd.C_alloc ?_ _) | (with_reducible refine Kd.C_drewN ?_ _) | (with_reducible refine Kd.C_drew ?_))); (case side2 => exact HC324_0.out); (case side3 => repeat (first | exact (by repeat (first | (with_reducible exact HR325_0.out) | (with_reducible refine Kd.C_alloc ?_ _) | (with_reducible refine Kd.C_drewN ?_ _) | (with_reducible refine Kd.C_drew ?_) | exact HR325_0.out)) | (with_reducible refine Kd.C_alloc ?_ _) | (with_reducible refine Kd.C_drewN ?_ _) | (with_reducible refine Kd.C_drew ?_))); (case side4 => exact HC325_0.out); rintro e w' ⟨rfl, ⟨nd, rfl⟩⟩; (try first | exact ⟨rfl, _, World.drewN_drewN _ _ _⟩ | exact ⟨rfl, _, Eq.trans (World.drewN_drewN _ _ _) (congrArg (World.drewN _) (Nat.add_assoc _ _ _))⟩))); try go_wp2_with (first | (go_at_call 9; (with_reducible refine (r05_Same.calls k2 _ _ (rd_L6 t315 x10_2) _ _ (rd_L6 t321 x10_2) true _ ?side1 ?side2 ?side3 ?side4 A27.out).mono ?_); (case side1 => repeat (first | exact (by repeat (first | (with_reducible exact HR324_0.out) | (with_reducible refine Kd.C_alloc ?_ _) | (with_reducible refine Kd.C_drewN ?_ _) | (with_reducible refine Kd.C_drew ?_) | exact HR324_0.out)) | (with_reducible refine Kd.C_alloc ?_ _) | (with_reducible refine Kd.C_drewN ?_ _) | (with_reducible refine Kd.C_drew ?_))); (case side2 => exact HC324_0.out); (case side3 => repeat (first | exact (by repeat (first | (with_reducible exact HR325_0.out) | (with_reducible refine Kd.C_alloc ?_ _) | (with_reducible refine Kd.C_drewN ?_ _) | (with_reducible refine Kd.C_drew ?_) | exact HR325_0.out)) | (with_reducible refine Kd.C_alloc ?_ _) | (with_reducible refine Kd.C_drewN ?_ _) | (with_reducible refine Kd.C_drew ?_))); (case side4 => exact HC325_0.out); rintro e w' ⟨rfl, ⟨nd, rfl⟩⟩; (try first | exact ⟨rfl, _, World.drewN_drewN _ _ _⟩ | exact ⟨rfl, _, Eq.trans (World.drewN_drewN _ _ _) (congrArg (World.drewN _) (Nat.add_assoc _ _ _))⟩))))
                          go_roundg k2
                          case measure => have := HJ5.out; have := HK2.out; omega
                          case rel => exact ⟨(wrap64 (x10_2 + 1)), (by first | rfl | (simp; done) | (simp [*]; done)), H', ⟨by have := HJ5.out; have := HK2.out; omega⟩, ⟨by (with_reducible repeat (first | apply Kd.V_alloc | apply Kd.V_drewN | apply Kd.V_drew)); exact HO_0.out⟩, ⟨by (with_reducible repeat (first | apply Kd.V_alloc | apply Kd.V_drewN | apply Kd.V_drew)); exact HO_1.out⟩, ⟨by (with_reducible repeat (first | apply Kd.N_alloc | apply Kd.N_drewN | apply Kd.N_drew)); exact HO_8.out⟩, ⟨by (with_reducible repeat (first | apply Kd.N_alloc | apply Kd.N_drewN | apply Kd.N_drew)); exact HO_9.out⟩, ⟨by repeat (first | (with_reducible first | exact HB.out | apply below_alloc | apply Zd | apply below_drew1) | exact HB.out)⟩⟩
                        · replace c28 := Bool.eq_false_iff.mpr c28
                          subst c28
                          have H1 : (none) = some r := by rw [if_neg (show ¬ (false = true) by decide)] at H; exact H
                          clear H
                          have H := H1
                          clear H1
                          exact absurd H (by simp)
                      · rw [if_neg c26] at H
                        exact absurd H (by simp)
                    · rw [if_neg c25] at H
                      exact absurd H (by simp)
                  · rw [if_neg c24] at H
                    exact absurd H (by simp)
                · rw [if_neg c23] at H
                  have c23b0 : decide (x10_2 < 3) = false := decide_eq_false c23
                  clear c23
                  replace H := Option.bind_eq_some_iff.mp H
                  obtain ⟨t327, A300, H⟩ := H
                  replace H : ((r05_Texts.f k2 l0 l1).bind fun t330 => ((r05_Same.f k2 t327 t330).bind fun t333 => (if t333 = true then ((lcs_Numbers.f k2 ([] : List (List ByteArray))).bind fun t334 => (some ((t334.length : Int) == 0))) else (none)))) = some r := H
                  have A30 := Zm A300
                  clear A300
                  replace H := Option.bind_eq_some_iff.mp H
                  obtain ⟨t330, A310, H⟩ := H
                  replace H : ((r05_Same.f k2 t327 t330).bind fun t333 => (if t333 = true then ((lcs_Numbers.f k2 ([] : List (List ByteArray))).bind fun t334 => (some ((t334.length : Int) == 0))) else (none))) = some r := H
                  have A31 := Zm A310
                  clear A310
                  replace H := Option.bind_eq_some_iff.mp H
                  obtain ⟨t333, A320, H⟩ := H
                  replace H : (if t333 = true then ((lcs_Numbers.f k2 ([] : List (List ByteArray))).bind fun t334 => (some ((t334.length : Int) == 0))) else (none)) = some r := H
                  have A32 := Zm A320
                  clear A320
                  by_cases c33 : t333 = true
                  · subst c33
                    have H1 : ((lcs_Numbers.f k2 ([] : List (List ByteArray))).bind fun t334 => (some ((t334.length : Int) == 0))) = some r := by rw [if_pos rfl] at H; exact H
                    clear H
                    have H := H1
                    clear H1
                    replace H := Option.bind_eq_some_iff.mp H
                    obtain ⟨t334, A340, H⟩ := H
                    replace H : (some ((t334.length : Int) == 0)) = some r := H
                    have A34 := Zm A340
                    clear A340
                    obtain rfl := Option.some.inj H
                    go_wp2_with (first | (go_at_call 18; (with_reducible refine (lcs_Texts.calls k2 (fun k_ => (((P0_ k_ ∨ P1_ k_ ∨ P2_ k_) ∨ w.heap.size ≤ k_) ∧ (some k_ ≠ (.slice Ao22 t315.length co22 : Value).ownBlock ∧ some k_ ≠ (v322 : Value).ownBlock))) _ _ l0 (fun k_ => (((P0_ k_ ∨ P1_ k_ ∨ P2_ k_) ∨ w.heap.size ≤ k_) ∧ (some k_ ≠ (.slice Ao22 t315.length co22 : Value).ownBlock ∧ some k_ ≠ (v322 : Value).ownBlock))) _ _ l1 t327 _ ?side1 ?side2 A30.out).mono ?_); (case side1 => exact HO_0.out); (case side2 => exact HO_1.out); rintro e w35 ⟨v328, rfl, ho0, hb⟩; have n0_ := Zm (Kd.V_elder' (by (with_reducible repeat (first | apply Kd.V_alloc | apply Kd.V_drewN | apply Kd.V_drew)); exact HO_0.out) (Kd.R_base ho0) hb); have n1_ := Zm (Kd.V_elder' (by (with_reducible repeat (first | apply Kd.V_alloc | apply Kd.V_drewN | apply Kd.V_drew)); exact HO_1.out) (Kd.R_base ho0) hb); have n2_ := Zm (Kd.N_elder' (by (with_reducible repeat (first | apply Kd.N_alloc | apply Kd.N_drewN | apply Kd.N_drew)); exact HO_8.out) (Kd.R_base ho0) hb); have n3_ := Zm (Kd.N_elder' (by (with_reducible repeat (first | apply Kd.N_alloc | apply Kd.N_drewN | apply Kd.N_drew)); exact HO_9.out) (Kd.R_base ho0) hb); have n4_ := Zm (Kd.R_lower (Kd.R_newM (M := fun k_ => (w.heap.size ≤ k_)) (Kd.R_mono (ok' := fun k_ => True) ho0 (fun _ hk_ => trivial)) (below_size (by repeat (first | (with_reducible first | exact HB.out | apply below_alloc | apply Zd | apply below_drew1) | exact HB.out))) (fun k_ h_ => h_)) (below_size (by repeat (first | (with_reducible first | exact HB.out | apply below_alloc | apply Zd | apply below_drew1) | exact HB.out)))); have n5_ := Zm (below_step (by repeat (first | (with_reducible first | exact HB.out | apply below_alloc | apply Zd | apply below_drew1) | exact HB.out)) hb); clear HO_0; clear HO_1; clear HO_8; clear HO_9; clear HB; have HO_0 := n0_; have HO_1 := n1_; have HO_8 := n2_; have HO_9 := n3_; have HO329 := n4_; have HB := n5_; clear n0_ n1_ n2_ n3_ n4_ n5_; (try clear hb); (try clear hb2); (try clear hk); (try clear hi); (try clear ho0)) | (go_at_call 19; (with_reducible refine (r05_Texts.calls k2 (fun k_ => ((((P0_ k_ ∨ P1_ k_ ∨ P2_ k_) ∨ w.heap.size ≤ k_) ∧ (some k_ ≠ (.slice Ao22 t315.length co22 : Value).ownBlock ∧ some k_ ≠ (v322 : Value).ownBlock)) ∧ some k_ ≠ (v328 : Value).ownBlock)) _ _ l0 (fun k_ => ((((P0_ k_ ∨ P1_ k_ ∨ P2_ k_) ∨ w.heap.size ≤ k_) ∧ (some k_ ≠ (.slice Ao22 t315.length co22 : Value).ownBlock ∧ some k_ ≠ (v322 : Value).ownBlock)) ∧ some k_ ≠ (v328 : Value).ownBlock)) _ _ l1 t330 _ ?side1 ?side2 A31.out).mono ?_); (case side1 => exact HO_0.out); (case side2 => exact HO_1.out); rintro e w36 ⟨v331, rfl, ho0, hb⟩; have n0_ := Zm (Kd.V_elder' (by (with_reducible repeat (first | apply Kd.V_alloc | apply Kd.V_drewN | apply Kd.V_drew)); exact HO_0.out) (Kd.R_base ho0) hb); have n1_ := Zm (Kd.V_elder' (by (with_reducible repeat (first | apply Kd.V_alloc | apply Kd.V_drewN | apply Kd.V_drew)); exact HO_1.out) (Kd.R_base ho0) hb); have n2_ := Zm (Kd.N_elder' (by (with_reducible repeat (first | apply Kd.N_alloc | apply Kd.N_drewN | apply Kd.N_drew)); exact HO_8.out) (Kd.R_base ho0) hb); have n3_ := Zm (Kd.N_elder' (by (with_reducible repeat (first | apply Kd.N_alloc | apply Kd.N_drewN | apply Kd.N_drew)); exact HO_9.out) (Kd.R_base ho0) hb); have n4_ := Zm (Kd.R_elder' (by (with_reducible repeat (first | apply Kd.R_alloc | apply Kd.R_drewN | apply Kd.R_drew)); exact HO329.out) (Kd.R_base ho0) hb); have n5_ := Zm (Kd.R_lower (Kd.R_new' (Kd.R_newM (M := fun k_ => (w.heap.size ≤ k_)) (Kd.R_mono (ok' := fun k_ => True) ho0 (fun _ hk_ => trivial)) (below_size (by repeat (first | (with_reducible first | exact HB.out | apply below_alloc | apply Zd | apply below_drew1) | exact HB.out))) (fun k_ h_ => h_)) (Kd.R_lt (by (with_reducible repeat (first | apply Kd.R_alloc | apply Kd.R_drewN | apply Kd.R_drew)); exact HO329.out))) (below_size (by repeat (first | (with_reducible first | exact HB.out | apply below_alloc | apply Zd | apply below_drew1) | exact HB.out)))); have n6_ := Zm (below_step (by repeat (first | (with_reducible first | exact HB.out | apply below_alloc | apply Zd | apply below_drew1) | exact HB.out)) hb); clear HO_0; clear HO_1; clear HO_8; clear HO_9; clear HO329; clear HB; have HO_0 := n0_; have HO_1 := n1_; have HO_8 := n2_; have HO_9 := n3_; have HO329 := n4_; have HO332 := n5_; have HB := n6_; clear n0_ n1_ n2_ n3_ n4_ n5_ n6_; (try clear hb); (try clear hb2); (try clear hk); (try clear hi); (try clear ho0); obtain ⟨Ao37, co37, eo37⟩ := Kd.R_slice HO329.out; subst eo37; obtain ⟨Ao38, co38, eo38⟩ := Kd.R_slice HO332.out; subst eo38) | (go_at_call 9; (with_reducible refine (r05_Same.calls k2 _ _ t327 _ _ t330 true _ ?side1 ?side2 ?side3 ?side4 A32.out).mono ?_); (case side1 => repeat (first | exact (Kd.R_reads' HO329.out).2.2 | (with_reducible refine Kd.C_alloc ?_ _) | (with_reducible refine Kd.C_drewN ?_ _) | (with_reducible refine Kd.C_drew ?_))); (case side2 => exact (Kd.R_reads' HO329.out).2.1); (case side3 => repeat (first | exact (Kd.R_reads' HO332.out).2.2 | (with_reducible refine Kd.C_alloc ?_ _) | (with_reducible refine Kd.C_drewN ?_ _) | (with_reducible refine Kd.C_drew ?_))); (case side4 => exact (Kd.R_reads' HO332.out).2.1); rintro e w' ⟨rfl, ⟨nd, rfl⟩⟩; (try first | exact ⟨rfl, _, World.drewN_drewN _ _ _⟩ | exact ⟨rfl, _, Eq.trans (World.drewN_drewN _ _ _) (congrArg (World.drewN _) (Nat.add_assoc _ _ _))⟩)) | (go_at_call 16; (refine (lcs_Numbers.calls k2 _ _ ([] : List (List ByteArray)) t334 _ ?side1 ?side2 A34.out).mono ?_); (case side1 => exact Kd.C_nil _ _); (case side2 => exact Nat.le_refl _); rintro e w39 ⟨v335, rfl, ho0, hb⟩; have n0_ := Zm (Kd.V_elder' (by (with_reducible repeat (first | apply Kd.V_alloc | apply Kd.V_drewN | apply Kd.V_drew)); exact HO_0.out) (by first | exact Kd.N_base ho0 | exact Kd.S_base ho0 | exact Kd.R_base ho0) hb); have n1_ := Zm (Kd.V_elder' (by (with_reducible repeat (first | apply Kd.V_alloc | apply Kd.V_drewN | apply Kd.V_drew)); exact HO_1.out) (by first | exact Kd.N_base ho0 | exact Kd.S_base ho0 | exact Kd.R_base ho0) hb); have n2_ := Zm (Kd.N_elder' (by (with_reducible repeat (first | apply Kd.N_alloc | apply Kd.N_drewN | apply Kd.N_drew)); exact HO_8.out) (by first | exact Kd.N_base ho0 | exact Kd.S_base ho0 | exact Kd.R_base ho0) hb); have n3_ := Zm (Kd.N_elder' (by (with_reducible repeat (first | apply Kd.N_alloc | apply Kd.N_drewN | apply Kd.N_drew)); exact HO_9.out) (by first | exact Kd.N_base ho0 | exact Kd.S_base ho0 | exact Kd.R_base ho0) hb); have n4_ := Zm (Kd.R_below (by (with_reducible repeat (first | apply Kd.R_alloc | apply Kd.R_drewN | apply Kd.R_drew)); exact HO329.out) hb); have n5_ := Zm (Kd.R_below (by (with_reducible repeat (first | apply Kd.R_alloc | apply Kd.R_drewN | apply Kd.R_drew)); exact HO332.out) hb); have n6_ := Zm (Kd.N_lower (Kd.N_mono (ok' := fun k_ => ((P0_ k_ ∨ P1_ k_ ∨ P2_ k_) ∨ w.heap.size ≤ k_) ∧ some k_ ≠ (.slice Ao22 t315.length co22 : Value).ownBlock ∧ some k_ ≠ (v322 : Value).ownBlock ∧ some k_ ≠ (.slice Ao37 t327.length co37 : Value).ownBlock ∧ some k_ ≠ (.slice Ao38 t330.length co38 : Value).ownBlock) (Kd.S_N (Kd.S_bound ho0)) (fun k_ hk_ => ⟨(.inr (Nat.le_trans (below_size (by repeat (first | (with_reducible first | exact HB.out | apply below_alloc | apply Zd | apply below_drew1) | exact HB.out))) hk_.2.1)), (Kd.fresh' (Kd.N_lt (by (with_reducible repeat (first | apply Kd.N_alloc | apply Kd.N_drewN | apply Kd.N_drew)); exact HO_8.out)) k_ hk_.2.1), (Kd.fresh' (Kd.N_lt (by (with_reducible repeat (first | apply Kd.N_alloc | apply Kd.N_drewN | apply Kd.N_drew)); exact HO_9.out)) k_ hk_.2.1), (Kd.fresh' (Kd.R_lt (by (with_reducible repeat (first | apply Kd.R_alloc | apply Kd.R_drewN | apply Kd.R_drew)); exact HO329.out)) k_ hk_.2.1), (Kd.fresh' (Kd.R_lt (by (with_reducible repeat (first | apply Kd.R_alloc | apply Kd.R_drewN | apply Kd.R_drew)); exact HO332.out)) k_ hk_.2.1)⟩)) (below_size (by repeat (first | (with_reducible first | exact HB.out | apply below_alloc | apply Zd | apply below_drew1) | exact HB.out)))); have n7_ := Zm (below_step (by repeat (first | (with_reducible first | exact HB.out | apply below_alloc | apply Zd | apply below_drew1) | exact HB.out)) hb); clear HO_0; clear HO_1; clear HO_8; clear HO_9; clear HO329; clear HO332; clear HB; have HO_0 := n0_; have HO_1 := n1_; have HO_8 := n2_; have HO_9 := n3_; have HO329 := n4_; have HO332 := n5_; have HO336 := n6_; have HB := n7_; clear n0_ n1_ n2_ n3_ n4_ n5_ n6_ n7_; (try clear hb); (try clear hb2); (try clear hk); (try clear hi); (try clear ho0); obtain ⟨Ao40, co40, eo40⟩ := Kd.N_slice HO336.out; subst eo40))
                    repeat (go_quiet (first | (go_at_call 18; (with_reducible refine (lcs_Texts.calls k2 (fun k_ => (((P0_ k_ ∨ P1_ k_ ∨ P2_ k_) ∨ w.heap.size ≤ k_) ∧ (some k_ ≠ (.slice Ao22 t315.length co22 : Value).ownBlock ∧ some k_ ≠ (v322 : Value).ownBlock))) _ _ l0 (fun k_ => (((P0_ k_ ∨ P1_ k_ ∨ P2_ k_) ∨ w.heap.size ≤ k_) ∧ (some k_ ≠ (.slice Ao22 t315.length co22 : Value).ownBlock ∧ some k_ ≠ (v322 : Value).ownBlock))) _ _ l1 t327 _ ?side1 ?side2 A30.out).mono ?_); (case side1 => exact HO_0.out); (case side2 => exact HO_1.out); rintro e w35 ⟨v328, rfl, ho0, hb⟩; have n0_ := Zm (Kd.V_elder' (by (with_reducible repeat (first | apply Kd.V_alloc | apply Kd.V_drewN | apply Kd.V_drew)); exact HO_0.out) (Kd.R_base ho0) hb); have n1_ := Zm (Kd.V_elder' (by (with_reducible repeat (first | apply Kd.V_alloc | apply Kd.V_drewN | apply Kd.V_drew)); exact HO_1.out) (Kd.R_base ho0) hb); have n2_ := Zm (Kd.N_elder' (by (with_reducible repeat (first | apply Kd.N_alloc | apply Kd.N_drewN | apply Kd.N_drew)); exact HO_8.out) (Kd.R_base ho0) hb); have n3_ := Zm (Kd.N_elder' (by (with_reducible repeat (first | apply Kd.N_alloc | apply Kd.N_drewN | apply Kd.N_drew)); exact HO_9.out) (Kd.R_base ho0) hb); have n4_ := Zm (Kd.R_lower (Kd.R_newM (M := fun k_ => (w.heap.size ≤ k_)) (Kd.R_mono (ok' := fun k_ => True) ho0 (fun _ hk_ => trivial)) (below_size (by repeat (first | (with_reducible first | exact HB.out | apply below_alloc | apply Zd | apply below_drew1) | exact HB.out))) (fun k_ h_ => h_)) (below_size (by repeat (first | (with_reducible first | exact HB.out | apply below_alloc | apply Zd | apply below_drew1) | exact HB.out)))); have n5_ := Zm (below_step (by repeat (first | (with_reducible first | exact HB.out | apply below_alloc | apply Zd | apply below_drew1) | exact HB.out)) hb); clear HO_0; clear HO_1; clear HO_8; clear HO_9; clear HB; have HO_0 := n0_; have HO_1 := n1_; have HO_8 := n2_; have HO_9 := n3_; have HO329 := n4_; have HB := n5_; clear n0_ n1_ n2_ n3_ n4_ n5_; (try clear hb); (try clear hb2); (try clear hk); (try clear hi); (try clear ho0)) | (go_at_call 19; (with_reducible refine (r05_Texts.calls k2 (fun k_ => ((((P0_ k_ ∨ P1_ k_ ∨ P2_ k_) ∨ w.heap.size ≤ k_) ∧ (some k_ ≠ (.slice Ao22 t315.length co22 : Value).ownBlock ∧ some k_ ≠ (v322 : Value).ownBlock)) ∧ some k_ ≠ (v328 : Value).ownBlock)) _ _ l0 (fun k_ => ((((P0_ k_ ∨ P1_ k_ ∨ P2_ k_) ∨ w.heap.size ≤ k_) ∧ (some k_ ≠ (.slice Ao22 t315.length co22 : Value).ownBlock ∧ some k_ ≠ (v322 : Value).ownBlock)) ∧ some k_ ≠ (v328 : Value).ownBlock)) _ _ l1 t330 _ ?side1 ?side2 A31.out).mono ?_); (case side1 => exact HO_0.out); (case side2 => exact HO_1.out); rintro e w36 ⟨v331, rfl, ho0, hb⟩; have n0_ := Zm (Kd.V_elder' (by (with_reducible repeat (first | apply Kd.V_alloc | apply Kd.V_drewN | apply Kd.V_drew)); exact HO_0.out) (Kd.R_base ho0) hb); have n1_ := Zm (Kd.V_elder' (by (with_reducible repeat (first | apply Kd.V_alloc | apply Kd.V_drewN | apply Kd.V_drew)); exact HO_1.out) (Kd.R_base ho0) hb); have n2_ := Zm (Kd.N_elder' (by (with_reducible repeat (first | apply Kd.N_alloc | apply Kd.N_drewN | apply Kd.N_drew)); exact HO_8.out) (Kd.R_base ho0) hb); have n3_ := Zm (Kd.N_elder' (by (with_reducible repeat (first | apply Kd.N_alloc | apply Kd.N_drewN | apply Kd.N_drew)); exact HO_9.out) (Kd.R_base ho0) hb); have n4_ := Zm (Kd.R_elder' (by (with_reducible repeat (first | apply Kd.R_alloc | apply Kd.R_drewN | apply Kd.R_drew)); exact HO329.out) (Kd.R_base ho0) hb); have n5_ := Zm (Kd.R_lower (Kd.R_new' (Kd.R_newM (M := fun k_ => (w.heap.size ≤ k_)) (Kd.R_mono (ok' := fun k_ => True) ho0 (fun _ hk_ => trivial)) (below_size (by repeat (first | (with_reducible first | exact HB.out | apply below_alloc | apply Zd | apply below_drew1) | exact HB.out))) (fun k_ h_ => h_)) (Kd.R_lt (by (with_reducible repeat (first | apply Kd.R_alloc | apply Kd.R_drewN | apply Kd.R_drew)); exact HO329.out))) (below_size (by repeat (first | (with_reducible first | exact HB.out | apply below_alloc | apply Zd | apply below_drew1) | exact HB.out)))); have n6_ := Zm (below_step (by repeat (first | (with_reducible first | exact HB.out | apply below_alloc | apply Zd | apply below_drew1) | exact HB.out)) hb); clear HO_0; clear HO_1; clear HO_8; clear HO_9; clear HO329; clear HB; have HO_0 := n0_; have HO_1 := n1_; have HO_8 := n2_; have HO_9 := n3_; have HO329 := n4_; have HO332 := n5_; have HB := n6_; clear n0_ n1_ n2_ n3_ n4_ n5_ n6_; (try clear hb); (try clear hb2); (try clear hk); (try clear hi); (try clear ho0); obtain ⟨Ao37, co37, eo37⟩ := Kd.R_slice HO329.out; subst eo37; obtain ⟨Ao38, co38, eo38⟩ := Kd.R_slice HO332.out; subst eo38) | (go_at_call 9; (with_reducible refine (r05_Same.calls k2 _ _ t327 _ _ t330 true _ ?side1 ?side2 ?side3 ?side4 A32.out).mono ?_); (case side1 => repeat (first | exact (Kd.R_reads' HO329.out).2.2 | (with_reducible refine Kd.C_alloc ?_ _) | (with_reducible refine Kd.C_drewN ?_ _) | (with_reducible refine Kd.C_drew ?_))); (case side2 => exact (Kd.R_reads' HO329.out).2.1); (case side3 => repeat (first | exact (Kd.R_reads' HO332.out).2.2 | (with_reducible refine Kd.C_alloc ?_ _) | (with_reducible refine Kd.C_drewN ?_ _) | (with_reducible refine Kd.C_drew ?_))); (case side4 => exact (Kd.R_reads' HO332.out).2.1); rintro e w' ⟨rfl, ⟨nd, rfl⟩⟩; (try first | exact ⟨rfl, _, World.drewN_drewN _ _ _⟩ | exact ⟨rfl, _, Eq.trans (World.drewN_drewN _ _ _) (congrArg (World.drewN _) (Nat.add_assoc _ _ _))⟩)) | (go_at_call 16; (refine (lcs_Numbers.calls k2 _ _ ([] : List (List ByteArray)) t334 _ ?side1 ?side2 A34.out).mono ?_); (case side1 => exact Kd.C_nil _ _); (case side2 => exact Nat.le_refl _); rintro e w39 ⟨v335, rfl, ho0, hb⟩; have n0_ := Zm (Kd.V_elder' (by (with_reducible repeat (first | apply Kd.V_alloc | apply Kd.V_drewN | apply Kd.V_drew)); exact HO_0.out) (by first | exact Kd.N_base ho0 | exact Kd.S_base ho0 | exact Kd.R_base ho0) hb); have n1_ := Zm (Kd.V_elder' (by (with_reducible repeat (first | apply Kd.V_alloc | apply Kd.V_drewN | apply Kd.V_drew)); exact HO_1.out) (by first | exact Kd.N_base ho0 | exact Kd.S_base ho0 | exact Kd.R_base ho0) hb); have n2_ := Zm (Kd.N_elder' (by (with_reducible repeat (first | apply Kd.N_alloc | apply Kd.N_drewN | apply Kd.N_drew)); exact HO_8.out) (by first | exact Kd.N_base ho0 | exact Kd.S_base ho0 | exact Kd.R_base ho0) hb); have n3_ := Zm (Kd.N_elder' (by (with_reducible repeat (first | apply Kd.N_alloc | apply Kd.N_drewN | apply Kd.N_drew)); exact HO_9.out) (by first | exact Kd.N_base ho0 | exact Kd.S_base ho0 | exact Kd.R_base ho0) hb); have n4_ := Zm (Kd.R_below (by (with_reducible repeat (first | apply Kd.R_alloc | apply Kd.R_drewN | apply Kd.R_drew)); exact HO329.out) hb); have n5_ := Zm (Kd.R_below (by (with_reducible repeat (first | apply Kd.R_alloc | apply Kd.R_drewN | apply Kd.R_drew)); exact HO332.out) hb); have n6_ := Zm (Kd.N_lower (Kd.N_mono (ok' := fun k_ => ((P0_ k_ ∨ P1_ k_ ∨ P2_ k_) ∨ w.heap.size ≤ k_) ∧ some k_ ≠ (.slice Ao22 t315.length co22 : Value).ownBlock ∧ some k_ ≠ (v322 : Value).ownBlock ∧ some k_ ≠ (.slice Ao37 t327.length co37 : Value).ownBlock ∧ some k_ ≠ (.slice Ao38 t330.length co38 : Value).ownBlock) (Kd.S_N (Kd.S_bound ho0)) (fun k_ hk_ => ⟨(.inr (Nat.le_trans (below_size (by repeat (first | (with_reducible first | exact HB.out | apply below_alloc | apply Zd | apply below_drew1) | exact HB.out))) hk_.2.1)), (Kd.fresh' (Kd.N_lt (by (with_reducible repeat (first | apply Kd.N_alloc | apply Kd.N_drewN | apply Kd.N_drew)); exact HO_8.out)) k_ hk_.2.1), (Kd.fresh' (Kd.N_lt (by (with_reducible repeat (first | apply Kd.N_alloc | apply Kd.N_drewN | apply Kd.N_drew)); exact HO_9.out)) k_ hk_.2.1), (Kd.fresh' (Kd.R_lt (by (with_reducible repeat (first | apply Kd.R_alloc | apply Kd.R_drewN | apply Kd.R_drew)); exact HO329.out)) k_ hk_.2.1), (Kd.fresh' (Kd.R_lt (by (with_reducible repeat (first | apply Kd.R_alloc | apply Kd.R_drewN | apply Kd.R_drew)); exact HO332.out)) k_ hk_.2.1)⟩)) (below_size (by repeat (first | (with_reducible first | exact HB.out | apply below_alloc | apply Zd | apply below_drew1) | exact HB.out)))); have n7_ := Zm (below_step (by repeat (first | (with_reducible first | exact HB.out | apply below_alloc | apply Zd | apply below_drew1) | exact HB.out)) hb); clear HO_0; clear HO_1; clear HO_8; clear HO_9; clear HO329; clear HO332; clear HB; have HO_0 := n0_; have HO_1 := n1_; have HO_8 := n2_; have HO_9 := n3_; have HO329 := n4_; have HO332 := n5_; have HO336 := n6_; have HB := n7_; clear n0_ n1_ n2_ n3_ n4_ n5_ n6_ n7_; (try clear hb); (try clear hb2); (try clear hk); (try clear hi); (try clear ho0); obtain ⟨Ao40, co40, eo40⟩ := Kd.N_slice HO336.out; subst eo40)); try go_wp2_with (first | (go_at_call 18; (with_reducible refine (lcs_Texts.calls k2 (fun k_ => (((P0_ k_ ∨ P1_ k_ ∨ P2_ k_) ∨ w.heap.size ≤ k_) ∧ (some k_ ≠ (.slice Ao22 t315.length co22 : Value).ownBlock ∧ some k_ ≠ (v322 : Value).ownBlock))) _ _ l0 (fun k_ => (((P0_ k_ ∨ P1_ k_ ∨ P2_ k_) ∨ w.heap.size ≤ k_) ∧ (some k_ ≠ (.slice Ao22 t315.length co22 : Value).ownBlock ∧ some k_ ≠ (v322 : Value).ownBlock))) _ _ l1 t327 _ ?side1 ?side2 A30.out).mono ?_); (case side1 => exact HO_0.out); (case side2 => exact HO_1.out); rintro e w35 ⟨v328, rfl, ho0, hb⟩; have n0_ := Zm (Kd.V_elder' (by (with_reducible repeat (first | apply Kd.V_alloc | apply Kd.V_drewN | apply Kd.V_drew)); exact HO_0.out) (Kd.R_base ho0) hb); have n1_ := Zm (Kd.V_elder' (by (with_reducible repeat (first | apply Kd.V_alloc | apply Kd.V_drewN | apply Kd.V_drew)); exact HO_1.out) (Kd.R_base ho0) hb); have n2_ := Zm (Kd.N_elder' (by (with_reducible repeat (first | apply Kd.N_alloc | apply Kd.N_drewN | apply Kd.N_drew)); exact HO_8.out) (Kd.R_base ho0) hb); have n3_ := Zm (Kd.N_elder' (by (with_reducible repeat (first | apply Kd.N_alloc | apply Kd.N_drewN | apply Kd.N_drew)); exact HO_9.out) (Kd.R_base ho0) hb); have n4_ := Zm (Kd.R_lower (Kd.R_newM (M := fun k_ => (w.heap.size ≤ k_)) (Kd.R_mono (ok' := fun k_ => True) ho0 (fun _ hk_ => trivial)) (below_size (by repeat (first | (with_reducible first | exact HB.out | apply below_alloc | apply Zd | apply below_drew1) | exact HB.out))) (fun k_ h_ => h_)) (below_size (by repeat (first | (with_reducible first | exact HB.out | apply below_alloc | apply Zd | apply below_drew1) | exact HB.out)))); have n5_ := Zm (below_step (by repeat (first | (with_reducible first | exact HB.out | apply below_alloc | apply Zd | apply below_drew1) | exact HB.out)) hb); clear HO_0; clear HO_1; clear HO_8; clear HO_9; clear HB; have HO_0 := n0_; have HO_1 := n1_; have HO_8 := n2_; have HO_9 := n3_; have HO329 := n4_; have HB := n5_; clear n0_ n1_ n2_ n3_ n4_ n5_; (try clear hb); (try clear hb2); (try clear hk); (try clear hi); (try clear ho0)) | (go_at_call 19; (with_reducible refine (r05_Texts.calls k2 (fun k_ => ((((P0_ k_ ∨ P1_ k_ ∨ P2_ k_) ∨ w.heap.size ≤ k_) ∧ (some k_ ≠ (.slice Ao22 t315.length co22 : Value).ownBlock ∧ some k_ ≠ (v322 : Value).ownBlock)) ∧ some k_ ≠ (v328 : Value).ownBlock)) _ _ l0 (fun k_ => ((((P0_ k_ ∨ P1_ k_ ∨ P2_ k_) ∨ w.heap.size ≤ k_) ∧ (some k_ ≠ (.slice Ao22 t315.length co22 : Value).ownBlock ∧ some k_ ≠ (v322 : Value).ownBlock)) ∧ some k_ ≠ (v328 : Value).ownBlock)) _ _ l1 t330 _ ?side1 ?side2 A31.out).mono ?_); (case side1 => exact HO_0.out); (case side2 => exact HO_1.out); rintro e w36 ⟨v331, rfl, ho0, hb⟩; have n0_ := Zm (Kd.V_elder' (by (with_reducible repeat (first | apply Kd.V_alloc | apply Kd.V_drewN | apply Kd.V_drew)); exact HO_0.out) (Kd.R_base ho0) hb); have n1_ := Zm (Kd.V_elder' (by (with_reducible repeat (first | apply Kd.V_alloc | apply Kd.V_drewN | apply Kd.V_drew)); exact HO_1.out) (Kd.R_base ho0) hb); have n2_ := Zm (Kd.N_elder' (by (with_reducible repeat (first | apply Kd.N_alloc | apply Kd.N_drewN | apply Kd.N_drew)); exact HO_8.out) (Kd.R_base ho0) hb); have n3_ := Zm (Kd.N_elder' (by (with_reducible repeat (first | apply Kd.N_alloc | apply Kd.N_drewN | apply Kd.N_drew)); exact HO_9.out) (Kd.R_base ho0) hb); have n4_ := Zm (Kd.R_elder' (by (with_reducible repeat (first | apply Kd.R_alloc | apply Kd.R_drewN | apply Kd.R_drew)); exact HO329.out) (Kd.R_base ho0) hb); have n5_ := Zm (Kd.R_lower (Kd.R_new' (Kd.R_newM (M := fun k_ => (w.heap.size ≤ k_)) (Kd.R_mono (ok' := fun k_ => True) ho0 (fun _ hk_ => trivial)) (below_size (by repeat (first | (with_reducible first | exact HB.out | apply below_alloc | apply Zd | apply below_drew1) | exact HB.out))) (fun k_ h_ => h_)) (Kd.R_lt (by (with_reducible repeat (first | apply Kd.R_alloc | apply Kd.R_drewN | apply Kd.R_drew)); exact HO329.out))) (below_size (by repeat (first | (with_reducible first | exact HB.out | apply below_alloc | apply Zd | apply below_drew1) | exact HB.out)))); have n6_ := Zm (below_step (by repeat (first | (with_reducible first | exact HB.out | apply below_alloc | apply Zd | apply below_drew1) | exact HB.out)) hb); clear HO_0; clear HO_1; clear HO_8; clear HO_9; clear HO329; clear HB; have HO_0 := n0_; have HO_1 := n1_; have HO_8 := n2_; have HO_9 := n3_; have HO329 := n4_; have HO332 := n5_; have HB := n6_; clear n0_ n1_ n2_ n3_ n4_ n5_ n6_; (try clear hb); (try clear hb2); (try clear hk); (try clear hi); (try clear ho0); obtain ⟨Ao37, co37, eo37⟩ := Kd.R_slice HO329.out; subst eo37; obtain ⟨Ao38, co38, eo38⟩ := Kd.R_slice HO332.out; subst eo38) | (go_at_call 9; (with_reducible refine (r05_Same.calls k2 _ _ t327 _ _ t330 true _ ?side1 ?side2 ?side3 ?side4 A32.out).mono ?_); (case side1 => repeat (first | exact (Kd.R_reads' HO329.out).2.2 | (with_reducible refine Kd.C_alloc ?_ _) | (with_reducible refine Kd.C_drewN ?_ _) | (with_reducible refine Kd.C_drew ?_))); (case side2 => exact (Kd.R_reads' HO329.out).2.1); (case side3 => repeat (first | exact (Kd.R_reads' HO332.out).2.2 | (with_reducible refine Kd.C_alloc ?_ _) | (with_reducible refine Kd.C_drewN ?_ _) | (with_reducible refine Kd.C_drew ?_))); (case side4 => exact (Kd.R_reads' HO332.out).2.1); rintro e w' ⟨rfl, ⟨nd, rfl⟩⟩; (try first | exact ⟨rfl, _, World.drewN_drewN _ _ _⟩ | exact ⟨rfl, _, Eq.trans (World.drewN_drewN _ _ _) (congrArg (World.drewN _) (Nat.add_assoc _ _ _))⟩)) | (go_at_call 16; (refine (lcs_Numbers.calls k2 _ _ ([] : List (List ByteArray)) t334 _ ?side1 ?side2 A34.out).mono ?_); (case side1 => exact Kd.C_nil _ _); (case side2 => exact Nat.le_refl _); rintro e w39 ⟨v335, rfl, ho0, hb⟩; have n0_ := Zm (Kd.V_elder' (by (with_reducible repeat (first | apply Kd.V_alloc | apply Kd.V_drewN | apply Kd.V_drew)); exact HO_0.out) (by first | exact Kd.N_base ho0 | exact Kd.S_base ho0 | exact Kd.R_base ho0) hb); have n1_ := Zm (Kd.V_elder' (by (with_reducible repeat (first | apply Kd.V_alloc | apply Kd.V_drewN | apply Kd.V_drew)); exact HO_1.out) (by first | exact Kd.N_base ho0 | exact Kd.S_base ho0 | exact Kd.R_base ho0) hb); have n2_ := Zm (Kd.N_elder' (by (with_reducible repeat (first | apply Kd.N_alloc | apply Kd.N_drewN | apply Kd.N_drew)); exact HO_8.out) (by first | exact Kd.N_base ho0 | exact Kd.S_base ho0 | exact Kd.R_base ho0) hb); have n3_ := Zm (Kd.N_elder' (by (with_reducible repeat (first | apply Kd.N_alloc | apply Kd.N_drewN | apply Kd.N_drew)); exact HO_9.out) (by first | exact Kd.N_base ho0 | exact Kd.S_base ho0 | exact Kd.R_base ho0) hb); have n4_ := Zm (Kd.R_below (by (with_reducible repeat (first | apply Kd.R_alloc | apply Kd.R_drewN | apply Kd.R_drew)); exact HO329.out) hb); have n5_ := Zm (Kd.R_below (by (with_reducible repeat (first | apply Kd.R_alloc | apply Kd.R_drewN | apply Kd.R_drew)); exact HO332.out) hb); have n6_ := Zm (Kd.N_lower (Kd.N_mono (ok' := fun k_ => ((P0_ k_ ∨ P1_ k_ ∨ P2_ k_) ∨ w.heap.size ≤ k_) ∧ some k_ ≠ (.slice Ao22 t315.length co22 : Value).ownBlock ∧ some k_ ≠ (v322 : Value).ownBlock ∧ some k_ ≠ (.slice Ao37 t327.length co37 : Value).ownBlock ∧ some k_ ≠ (.slice Ao38 t330.length co38 : Value).ownBlock) (Kd.S_N (Kd.S_bound ho0)) (fun k_ hk_ => ⟨(.inr (Nat.le_trans (below_size (by repeat (first | (with_reducible first | exact HB.out | apply below_alloc | apply Zd | apply below_drew1) | exact HB.out))) hk_.2.1)), (Kd.fresh' (Kd.N_lt (by (with_reducible repeat (first | apply Kd.N_alloc | apply Kd.N_drewN | apply Kd.N_drew)); exact HO_8.out)) k_ hk_.2.1), (Kd.fresh' (Kd.N_lt (by (with_reducible repeat (first | apply Kd.N_alloc | apply Kd.N_drewN | apply Kd.N_drew)); exact HO_9.out)) k_ hk_.2.1), (Kd.fresh' (Kd.R_lt (by (with_reducible repeat (first | apply Kd.R_alloc | apply Kd.R_drewN | apply Kd.R_drew)); exact HO329.out)) k_ hk_.2.1), (Kd.fresh' (Kd.R_lt (by (with_reducible repeat (first | apply Kd.R_alloc | apply Kd.R_drewN | apply Kd.R_drew)); exact HO332.out)) k_ hk_.2.1)⟩)) (below_size (by repeat (first | (with_reducible first | exact HB.out | apply below_alloc | apply Zd | apply below_drew1) | exact HB.out)))); have n7_ := Zm (below_step (by repeat (first | (with_reducible first | exact HB.out | apply below_alloc | apply Zd | apply below_drew1) | exact HB.out)) hb); clear HO_0; clear HO_1; clear HO_8; clear HO_9; clear HO329; clear HO332; clear HB; have HO_0 := n0_; have HO_1 := n1_; have HO_8 := n2_; have HO_9 := n3_; have HO329 := n4_; have HO332 := n5_; have HO336 := n6_; have HB := n7_; clear n0_ n1_ n2_ n3_ n4_ n5_ n6_ n7_; (try clear hb); (try clear hb2); (try clear hk); (try clear hi); (try clear ho0); obtain ⟨Ao40, co40, eo40⟩ := Kd.N_slice HO336.out; subst eo40)))
                    go_ret
                    exact ⟨by first | rfl | (simp [errW_none, errW_some] <;> rfl) | (simp [*, errW_none, errW_some] <;> rfl), by repeat (first | (with_reducible first | exact HB.out | apply below_alloc | apply Zd | apply below_drew1) | exact HB.out)⟩
                  · replace c33 := Bool.eq_false_iff.mpr c33
                    subst c33
                    have H1 : (none) = some r := by rw [if_neg (show ¬ (false = true) by decide)] at H; exact H
                    clear H
                    have H := H1
                    clear H1
                    exact absurd H (by simp)
          · rw [if_neg c13] at H
            exact absurd H (by simp)
  · replace c5 := Bool.eq_false_iff.mpr c5
    subst c5
    have H1 : (none) = some r := by rw [if_neg (show ¬ (false = true) by decide)] at H; exact H
    clear H
    have H := H1
    clear H1
    exact absurd H (by simp)

end Go.Proofs.Ytjbgdoapbehopaa.PLcsNumbers
