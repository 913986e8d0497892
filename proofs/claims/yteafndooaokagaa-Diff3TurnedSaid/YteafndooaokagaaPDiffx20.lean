/- Laid by a program of this session out of the seat's translation. -/
import Derived.Test.YteafndooaokagaaPDiffx0
import Derived.Test.YteafndooaokagaaPDiffx1
import Derived.Test.YteafndooaokagaaPDiffx7
import Derived.Test.YteafndooaokagaaPDiffx8
import Derived.Test.YteafndooaokagaaPDiffx9
namespace Go.Proofs.Yteafndooaokagaa.PDiff
open Go.RowKit Go.Proofs.YteafndooaokagaaW.PrintWords Go.Proofs.YteafndooaokagaaW.PrintLast Go.Proofs.YteafndooaokagaaW.PrintMore
attribute [local go_sem] max2_int min2_int max_two min_two max_three min_three max_four min_four   -- for this text's walks alone
set_option linter.unusedVariables false
set_option linter.unusedSimpArgs false

attribute [local go_sem high] eqA39
/-! ### concordatlaw07_Diff3Sides: function 6 -/
def concordatlaw07_Diff3Sides.f (k : Nat) (l0 : List Int) (l1 : List Int) : Option (Bool) := (concordatlaw07_awake.f k).bind fun t438 => (if t438 = true then ((concordatlaw07_few.f l0 l1 ([] : List Int)).bind fun t439 => (if t439 = true then ((diff3_Merge.f k l0 l0 l1).bind fun bt440 => ((diff3_Merge.f k l0 l1 l0).bind fun bt444 => ((diff3_Merge.f k l0 l1 l1).bind fun bt448 => (if bt440.2 = true then (if bt444.2 = true then (if bt448.2 = true then ((concordatref05_Same.f k bt440.1 l1).bind fun t452 => (if t452 = true then ((concordatref05_Same.f k bt444.1 l1).bind fun t453 => (if t453 = true then ((concordatref05_Same.f k bt448.1 l1).bind fun t454 => (some t454)) else (none))) else (none))) else (none)) else (none)) else (none))))) else (some true))) else (none))
theorem concordatlaw07_Diff3Sides.mono : ∀ a0 a1 k, LeO (concordatlaw07_Diff3Sides.f k a0 a1) (concordatlaw07_Diff3Sides.f (k + 1) a0 a1) := by
  intro a0 a1 k
  unfold concordatlaw07_Diff3Sides.f
  repeat' first
      | (with_reducible exact concordatlaw07_awake.mono _)
      | (with_reducible exact concordatref05_Same.mono _ _ _)
      | (with_reducible exact diff3_Merge.mono _ _ _ _)
      | (with_reducible exact LeO.refl _)
      | (with_reducible exact LeO.none _)
      | (with_reducible refine LeO.ite ?_ ?_)
      | (with_reducible refine LeO.bind ?_ (fun _ => ?_))
      | exact concordatlaw07_awake.mono _
      | exact concordatref05_Same.mono _ _ _
      | exact diff3_Merge.mono _ _ _ _
      | exact LeO.none _
      | refine LeO.ite ?_ ?_
      | refine LeO.bind ?_ (fun _ => ?_)
set_option maxHeartbeats 8000000 in
set_option maxRecDepth 100000 in
theorem concordatlaw07_Diff3Sides.calls (k : Nat) (A0 : Option Addr) (c0 : Nat) (l0 : List Int) (A1 : Option Addr) (c1 : Nat) (l1 : List Int) (r : Bool) (w : World) (hr0 : Kd.C (Kd.int .i64) w A0 l0.length l0) (hc0 : l0.length ≤ c0) (hr1 : Kd.C (Kd.int .i64) w A1 l1.length l1) (hc1 : l1.length ≤ c1) (h : concordatlaw07_Diff3Sides.f k l0 l1 = some r) :
    Calls Try.prog 6 #[.slice A0 l0.length c0, .slice A1 l1.length c1] w fun e w' => e = .returned (.bool r) ∧ Below w.heap.size w w' := by
  have HR0 := Aside0.mk hr0
  have HC0 := Aside0.mk hc0
  clear hr0 hc0
  have HR1 := Aside0.mk hr1
  have HC1 := Aside0.mk hc1
  clear hr1 hc1
  have HB := Aside0.mk (Below.refl w.heap.size w)
  have H : ((concordatlaw07_awake.f k).bind fun t438 => (if t438 = true then ((concordatlaw07_few.f l0 l1 ([] : List Int)).bind fun t439 => (if t439 = true then ((diff3_Merge.f k l0 l0 l1).bind fun bt440 => ((diff3_Merge.f k l0 l1 l0).bind fun bt444 => ((diff3_Merge.f k l0 l1 l1).bind fun bt448 => (if bt440.2 = true then (if bt444.2 = true then (if bt448.2 = true then ((concordatref05_Same.f k bt440.1 l1).bind fun t452 => (if t452 = true then ((concordatref05_Same.f k bt444.1 l1).bind fun t453 => (if t453 = true then ((concordatref05_Same.f k bt448.1 l1).bind fun t454 => (some t454)) else (none))) else (none))) else (none)) else (none)) else (none))))) else (some true))) else (none))) = some r := h
  clear h
  replace H := Option.bind_eq_some_iff.mp H
  obtain ⟨t438, A30, H⟩ := H
  replace H : (if t438 = true then ((concordatlaw07_few.f l0 l1 ([] : List Int)).bind fun t439 => (if t439 = true then ((diff3_Merge.f k l0 l0 l1).bind fun bt440 => ((diff3_Merge.f k l0 l1 l0).bind fun bt444 => ((diff3_Merge.f k l0 l1 l1).bind fun bt448 => (if bt440.2 = true then (if bt444.2 = true then (if bt448.2 = true then ((concordatref05_Same.f k bt440.1 l1).bind fun t452 => (if t452 = true then ((concordatref05_Same.f k bt444.1 l1).bind fun t453 => (if t453 = true then ((concordatref05_Same.f k bt448.1 l1).bind fun t454 => (some t454)) else (none))) else (none))) else (none)) else (none)) else (none))))) else (some true))) else (none)) = some r := H
  have A3 := Aside0.mk A30
  clear A30
  by_cases c4 : t438 = true
  · subst c4
    have H1 : ((concordatlaw07_few.f l0 l1 ([] : List Int)).bind fun t439 => (if t439 = true then ((diff3_Merge.f k l0 l0 l1).bind fun bt440 => ((diff3_Merge.f k l0 l1 l0).bind fun bt444 => ((diff3_Merge.f k l0 l1 l1).bind fun bt448 => (if bt440.2 = true then (if bt444.2 = true then (if bt448.2 = true then ((concordatref05_Same.f k bt440.1 l1).bind fun t452 => (if t452 = true then ((concordatref05_Same.f k bt444.1 l1).bind fun t453 => (if t453 = true then ((concordatref05_Same.f k bt448.1 l1).bind fun t454 => (some t454)) else (none))) else (none))) else (none)) else (none)) else (none))))) else (some true))) = some r := by rw [if_pos rfl] at H; exact H
    clear H
    have H := H1
    clear H1
    replace H := Option.bind_eq_some_iff.mp H
    obtain ⟨t439, A50, H⟩ := H
    replace H : (if t439 = true then ((diff3_Merge.f k l0 l0 l1).bind fun bt440 => ((diff3_Merge.f k l0 l1 l0).bind fun bt444 => ((diff3_Merge.f k l0 l1 l1).bind fun bt448 => (if bt440.2 = true then (if bt444.2 = true then (if bt448.2 = true then ((concordatref05_Same.f k bt440.1 l1).bind fun t452 => (if t452 = true then ((concordatref05_Same.f k bt444.1 l1).bind fun t453 => (if t453 = true then ((concordatref05_Same.f k bt448.1 l1).bind fun t454 => (some t454)) else (none))) else (none))) else (none)) else (none)) else (none))))) else (some true)) = some r := H
    have A5 := Aside0.mk A50
    clear A50
    by_cases c6 : t439 = true
    · subst c6
      have H1 : ((diff3_Merge.f k l0 l0 l1).bind fun bt440 => ((diff3_Merge.f k l0 l1 l0).bind fun bt444 => ((diff3_Merge.f k l0 l1 l1).bind fun bt448 => (if bt440.2 = true then (if bt444.2 = true then (if bt448.2 = true then ((concordatref05_Same.f k bt440.1 l1).bind fun t452 => (if t452 = true then ((concordatref05_Same.f k bt444.1 l1).bind fun t453 => (if t453 = true then ((concordatref05_Same.f k bt448.1 l1).bind fun t454 => (some t454)) else (none))) else (none))) else (none)) else (none)) else (none))))) = some r := by rw [if_pos rfl] at H; exact H
      clear H
      have H := H1
      clear H1
      replace H := Option.bind_eq_some_iff.mp H
      obtain ⟨⟨t440, t441⟩, A70, H⟩ := H
      replace H : ((diff3_Merge.f k l0 l1 l0).bind fun bt444 => ((diff3_Merge.f k l0 l1 l1).bind fun bt448 => (if t441 = true then (if bt444.2 = true then (if bt448.2 = true then ((concordatref05_Same.f k t440 l1).bind fun t452 => (if t452 = true then ((concordatref05_Same.f k bt444.1 l1).bind fun t453 => (if t453 = true then ((concordatref05_Same.f k bt448.1 l1).bind fun t454 => (some t454)) else (none))) else (none))) else (none)) else (none)) else (none)))) = some r := H
      have A7 := Aside0.mk A70
      clear A70
      replace H := Option.bind_eq_some_iff.mp H
      obtain ⟨⟨t444, t445⟩, A80, H⟩ := H
      replace H : ((diff3_Merge.f k l0 l1 l1).bind fun bt448 => (if t441 = true then (if t445 = true then (if bt448.2 = true then ((concordatref05_Same.f k t440 l1).bind fun t452 => (if t452 = true then ((concordatref05_Same.f k t444 l1).bind fun t453 => (if t453 = true then ((concordatref05_Same.f k bt448.1 l1).bind fun t454 => (some t454)) else (none))) else (none))) else (none)) else (none)) else (none))) = some r := H
      have A8 := Aside0.mk A80
      clear A80
      replace H := Option.bind_eq_some_iff.mp H
      obtain ⟨⟨t448, t449⟩, A90, H⟩ := H
      replace H : (if t441 = true then (if t445 = true then (if t449 = true then ((concordatref05_Same.f k t440 l1).bind fun t452 => (if t452 = true then ((concordatref05_Same.f k t444 l1).bind fun t453 => (if t453 = true then ((concordatref05_Same.f k t448 l1).bind fun t454 => (some t454)) else (none))) else (none))) else (none)) else (none)) else (none)) = some r := H
      have A9 := Aside0.mk A90
      clear A90
      by_cases c10 : t441 = true
      · subst c10
        have H1 : (if t445 = true then (if t449 = true then ((concordatref05_Same.f k t440 l1).bind fun t452 => (if t452 = true then ((concordatref05_Same.f k t444 l1).bind fun t453 => (if t453 = true then ((concordatref05_Same.f k t448 l1).bind fun t454 => (some t454)) else (none))) else (none))) else (none)) else (none)) = some r := by rw [if_pos rfl] at H; exact H
        clear H
        have H := H1
        clear H1
        by_cases c11 : t445 = true
        · subst c11
          have H1 : (if t449 = true then ((concordatref05_Same.f k t440 l1).bind fun t452 => (if t452 = true then ((concordatref05_Same.f k t444 l1).bind fun t453 => (if t453 = true then ((concordatref05_Same.f k t448 l1).bind fun t454 => (some t454)) else (none))) else (none))) else (none)) = some r := by rw [if_pos rfl] at H; exact H
          clear H
          have H := H1
          clear H1
          by_cases c12 : t449 = true
          · subst c12
            have H1 : ((concordatref05_Same.f k t440 l1).bind fun t452 => (if t452 = true then ((concordatref05_Same.f k t444 l1).bind fun t453 => (if t453 = true then ((concordatref05_Same.f k t448 l1).bind fun t454 => (some t454)) else (none))) else (none))) = some r := by rw [if_pos rfl] at H; exact H
            clear H
            have H := H1
            clear H1
            replace H := Option.bind_eq_some_iff.mp H
            obtain ⟨t452, A130, H⟩ := H
            replace H : (if t452 = true then ((concordatref05_Same.f k t444 l1).bind fun t453 => (if t453 = true then ((concordatref05_Same.f k t448 l1).bind fun t454 => (some t454)) else (none))) else (none)) = some r := H
            have A13 := Aside0.mk A130
            clear A130
            by_cases c14 : t452 = true
            · subst c14
              have H1 : ((concordatref05_Same.f k t444 l1).bind fun t453 => (if t453 = true then ((concordatref05_Same.f k t448 l1).bind fun t454 => (some t454)) else (none))) = some r := by rw [if_pos rfl] at H; exact H
              clear H
              have H := H1
              clear H1
              replace H := Option.bind_eq_some_iff.mp H
              obtain ⟨t453, A150, H⟩ := H
              replace H : (if t453 = true then ((concordatref05_Same.f k t448 l1).bind fun t454 => (some t454)) else (none)) = some r := H
              have A15 := Aside0.mk A150
              clear A150
              by_cases c16 : t453 = true
              · subst c16
                have H1 : ((concordatref05_Same.f k t448 l1).bind fun t454 => (some t454)) = some r := by rw [if_pos rfl] at H; exact H
                clear H
                have H := H1
                clear H1
                replace H := Option.bind_eq_some_iff.mp H
                obtain ⟨t454, A170, H⟩ := H
                replace H : (some t454) = some r := H
                have A17 := Aside0.mk A170
                clear A170
                obtain rfl := Option.some.inj H
                go_enter Try.func6, Try.ntmps6
                go_wp2_with (first | ((with_reducible refine gate_callee (f := 8) rfl ?_); refine goesL_ (some 13) rfl rfl Try.func8 (by kernel_rfl) rfl #[] rfl (by (try simp only [List.map_toArray, List.map_cons, List.map_nil]); first | done | rfl | (simp only [List.length_drop, List.length_take]; rfl)) ?_; (with_reducible refine (concordatlaw07_awake.calls k  true _ A3.out).mono ?_); rintro e w18 ⟨rfl, hb⟩; refine ⟨_, rfl, ?_⟩; have n0_ := Aside0.mk (below_step (by repeat (first | (with_reducible first | exact HB.out | apply below_alloc | apply pw_below_drewN | apply below_drew1) | exact HB.out)) hb); clear HB; have HB := n0_; clear n0_; (try clear hb); (try clear hb2); (try clear hk); (try clear hi)) | ((with_reducible refine gate_callee (f := 9) rfl ?_); refine goesL_ (some 18) rfl rfl Try.func9 (by kernel_rfl) rfl #[.slice A0 l0.length c0, .slice A1 l1.length c1, .slice none 0 0] rfl (by (try simp only [List.map_toArray, List.map_cons, List.map_nil]); first | done | rfl | (simp only [List.length_drop, List.length_take]; rfl)) ?_; (refine (concordatlaw07_few.calls _ _ l0 _ _ l1 _ _ ([] : List Int) true _ ?side1 ?side2 ?side3 ?side4 ?side5 ?side6 A5.out).mono ?_); (case side1 => repeat (first | exact (Kd.C_below HR0.out HB.out) | (with_reducible refine Kd.C_alloc ?_ _) | (with_reducible refine Kd.C_drewN ?_ _) | (with_reducible refine Kd.C_drew ?_))); (case side2 => exact HC0.out); (case side3 => repeat (first | exact (Kd.C_below HR1.out HB.out) | (with_reducible refine Kd.C_alloc ?_ _) | (with_reducible refine Kd.C_drewN ?_ _) | (with_reducible refine Kd.C_drew ?_))); (case side4 => exact HC1.out); (case side5 => exact Kd.C_nil _ _); (case side6 => exact Nat.le_refl _); rintro e w' ⟨rfl, ⟨nd, rfl⟩⟩; refine ⟨_, rfl, ?_⟩) | ((with_reducible refine gate_callee (f := 11) rfl ?_); refine goesL_ (some 25) rfl rfl Try.func11 (by kernel_rfl) rfl #[.slice A0 l0.length c0, .slice A0 l0.length c0, .slice A1 l1.length c1] rfl (by (try simp only [List.map_toArray, List.map_cons, List.map_nil]); first | done | rfl | (simp only [List.length_drop, List.length_take]; rfl)) ?_; (with_reducible refine (diff3_Merge.calls k _ _ l0 _ _ l0 _ _ l1 t440 true _ ?side1 ?side2 ?side3 ?side4 ?side5 ?side6 A7.out).mono ?_); (case side1 => repeat (first | exact (Kd.C_below HR0.out (by repeat (first | (with_reducible first | exact HB.out | apply below_alloc | apply pw_below_drewN | apply below_drew1) | exact HB.out))) | (with_reducible refine Kd.C_alloc ?_ _) | (with_reducible refine Kd.C_drewN ?_ _) | (with_reducible refine Kd.C_drew ?_))); (case side2 => exact HC0.out); (case side3 => repeat (first | exact (Kd.C_below HR0.out (by repeat (first | (with_reducible first | exact HB.out | apply below_alloc | apply pw_below_drewN | apply below_drew1) | exact HB.out))) | (with_reducible refine Kd.C_alloc ?_ _) | (with_reducible refine Kd.C_drewN ?_ _) | (with_reducible refine Kd.C_drew ?_))); (case side4 => exact HC0.out); (case side5 => repeat (first | exact (Kd.C_below HR1.out (by repeat (first | (with_reducible first | exact HB.out | apply below_alloc | apply pw_below_drewN | apply below_drew1) | exact HB.out))) | (with_reducible refine Kd.C_alloc ?_ _) | (with_reducible refine Kd.C_drewN ?_ _) | (with_reducible refine Kd.C_drew ?_))); (case side6 => exact HC1.out); rintro e w19 ⟨v442, rfl, ho0, hb⟩; refine ⟨_, rfl, ?_⟩; have n0_ := Aside0.mk (Kd.R_lower ho0 (below_size (by repeat (first | (with_reducible first | exact HB.out | apply below_alloc | apply pw_below_drewN | apply below_drew1) | exact HB.out)))); have n1_ := Aside0.mk (below_step (by repeat (first | (with_reducible first | exact HB.out | apply below_alloc | apply pw_below_drewN | apply below_drew1) | exact HB.out)) hb); clear HB; have HO443 := n0_; have HB := n1_; clear n0_ n1_; (try clear hb); (try clear hb2); (try clear hk); (try clear hi); (try clear ho0)) | ((with_reducible refine gate_callee (f := 11) rfl ?_); refine goesL_ (some 32) rfl rfl Try.func11 (by kernel_rfl) rfl #[.slice A0 l0.length c0, .slice A1 l1.length c1, .slice A0 l0.length c0] rfl (by (try simp only [List.map_toArray, List.map_cons, List.map_nil]); first | done | rfl | (simp only [List.length_drop, List.length_take]; rfl)) ?_; (with_reducible refine (diff3_Merge.calls k _ _ l0 _ _ l1 _ _ l0 t444 true _ ?side1 ?side2 ?side3 ?side4 ?side5 ?side6 A8.out).mono ?_); (case side1 => repeat (first | exact (Kd.C_below HR0.out HB.out) | (with_reducible refine Kd.C_alloc ?_ _) | (with_reducible refine Kd.C_drewN ?_ _) | (with_reducible refine Kd.C_drew ?_))); (case side2 => exact HC0.out); (case side3 => repeat (first | exact (Kd.C_below HR1.out HB.out) | (with_reducible refine Kd.C_alloc ?_ _) | (with_reducible refine Kd.C_drewN ?_ _) | (with_reducible refine Kd.C_drew ?_))); (case side4 => exact HC1.out); (case side5 => repeat (first | exact (Kd.C_below HR0.out HB.out) | (with_reducible refine Kd.C_alloc ?_ _) | (with_reducible refine Kd.C_drewN ?_ _) | (with_reducible refine Kd.C_drew ?_))); (case side6 => exact HC0.out); rintro e w20 ⟨v446, rfl, ho0, hb⟩; refine ⟨_, rfl, ?_⟩; have n0_ := Aside0.mk (Kd.R_elder' (by (with_reducible repeat (first | apply Kd.R_alloc | apply Kd.R_drewN | apply Kd.R_drew)); exact HO443.out) (Kd.R_base ho0) hb); have n1_ := Aside0.mk (Kd.R_lower (Kd.R_new' ho0 (Kd.R_lt (by (with_reducible repeat (first | apply Kd.R_alloc | apply Kd.R_drewN | apply Kd.R_drew)); exact HO443.out))) (below_size (by repeat (first | (with_reducible first | exact HB.out | apply below_alloc | apply pw_below_drewN | apply below_drew1) | exact HB.out)))); have n2_ := Aside0.mk (below_step (by repeat (first | (with_reducible first | exact HB.out | apply below_alloc | apply pw_below_drewN | apply below_drew1) | exact HB.out)) hb); clear HO443; clear HB; have HO443 := n0_; have HO447 := n1_; have HB := n2_; clear n0_ n1_ n2_; (try clear hb); (try clear hb2); (try clear hk); (try clear hi); (try clear ho0)) | ((with_reducible refine gate_callee (f := 11) rfl ?_); refine goesL_ (some 39) rfl rfl Try.func11 (by kernel_rfl) rfl #[.slice A0 l0.length c0, .slice A1 l1.length c1, .slice A1 l1.length c1] rfl (by (try simp only [List.map_toArray, List.map_cons, List.map_nil]); first | done | rfl | (simp only [List.length_drop, List.length_take]; rfl)) ?_; (with_reducible refine (diff3_Merge.calls k _ _ l0 _ _ l1 _ _ l1 t448 true _ ?side1 ?side2 ?side3 ?side4 ?side5 ?side6 A9.out).mono ?_); (case side1 => repeat (first | exact (Kd.C_below HR0.out HB.out) | (with_reducible refine Kd.C_alloc ?_ _) | (with_reducible refine Kd.C_drewN ?_ _) | (with_reducible refine Kd.C_drew ?_))); (case side2 => exact HC0.out); (case side3 => repeat (first | exact (Kd.C_below HR1.out HB.out) | (with_reducible refine Kd.C_alloc ?_ _) | (with_reducible refine Kd.C_drewN ?_ _) | (with_reducible refine Kd.C_drew ?_))); (case side4 => exact HC1.out); (case side5 => repeat (first | exact (Kd.C_below HR1.out HB.out) | (with_reducible refine Kd.C_alloc ?_ _) | (with_reducible refine Kd.C_drewN ?_ _) | (with_reducible refine Kd.C_drew ?_))); (case side6 => exact HC1.out); rintro e w21 ⟨v450, rfl, ho0, hb⟩; refine ⟨_, rfl, ?_⟩; have n0_ := Aside0.mk (Kd.R_elder' (by (with_reducible repeat (first | apply Kd.R_alloc | apply Kd.R_drewN | apply Kd.R_drew)); exact HO443.out) (Kd.R_base ho0) hb); have n1_ := Aside0.mk (Kd.R_elder' (by (with_reducible repeat (first | apply Kd.R_alloc | apply Kd.R_drewN | apply Kd.R_drew)); exact HO447.out) (Kd.R_base ho0) hb); have n2_ := Aside0.mk (Kd.R_lower (Kd.R_new' (Kd.R_new' ho0 (Kd.R_lt (by (with_reducible repeat (first | apply Kd.R_alloc | apply Kd.R_drewN | apply Kd.R_drew)); exact HO443.out))) (Kd.R_lt (by (with_reducible repeat (first | apply Kd.R_alloc | apply Kd.R_drewN | apply Kd.R_drew)); exact HO447.out))) (below_size (by repeat (first | (with_reducible first | exact HB.out | apply below_alloc | apply pw_below_drewN | apply below_drew1) | exact HB.out)))); have n3_ := Aside0.mk (below_step (by repeat (first | (with_reducible first | exact HB.out | apply below_alloc | apply pw_below_drewN | apply below_drew1) | exact HB.out)) hb); clear HO443; clear HO447; clear HB; have HO443 := n0_; have HO447 := n1_; have HO451 := n2_; have HB := n3_; clear n0_ n1_ n2_ n3_; (try clear hb); (try clear hb2); (try clear hk); (try clear hi); (try clear ho0); obtain ⟨Ao22, co22, eo22⟩ := Kd.R_slice HO443.out; subst eo22) | (go_at_call 17; (with_reducible refine (concordatref05_Same.calls k _ _ t440 _ _ l1 true _ ?side1 ?side2 ?side3 ?side4 A13.out).mono ?_); (case side1 => repeat (first | exact (Kd.R_reads' HO443.out).2.2 | (with_reducible refine Kd.C_alloc ?_ _) | (with_reducible refine Kd.C_drewN ?_ _) | (with_reducible refine Kd.C_drew ?_))); (case side2 => exact (Kd.R_reads' HO443.out).2.1); (case side3 => repeat (first | exact (Kd.C_below HR1.out HB.out) | (with_reducible refine Kd.C_alloc ?_ _) | (with_reducible refine Kd.C_drewN ?_ _) | (with_reducible refine Kd.C_drew ?_))); (case side4 => exact HC1.out); rintro e w' ⟨rfl, ⟨nd, rfl⟩⟩; obtain ⟨Ao23, co23, eo23⟩ := Kd.R_slice HO447.out; subst eo23) | (go_at_call 17; (with_reducible refine (concordatref05_Same.calls k _ _ t444 _ _ l1 true _ ?side1 ?side2 ?side3 ?side4 A15.out).mono ?_); (case side1 => repeat (first | exact (Kd.R_reads' HO447.out).2.2 | (with_reducible refine Kd.C_alloc ?_ _) | (with_reducible refine Kd.C_drewN ?_ _) | (with_reducible refine Kd.C_drew ?_))); (case side2 => exact (Kd.R_reads' HO447.out).2.1); (case side3 => repeat (first | exact (Kd.C_below HR1.out (by repeat (first | (with_reducible first | exact HB.out | apply below_alloc | apply pw_below_drewN | apply below_drew1) | exact HB.out))) | (with_reducible refine Kd.C_alloc ?_ _) | (with_reducible refine Kd.C_drewN ?_ _) | (with_reducible refine Kd.C_drew ?_))); (case side4 => exact HC1.out); rintro e w' ⟨rfl, ⟨nd, rfl⟩⟩; obtain ⟨Ao24, co24, eo24⟩ := Kd.R_slice HO451.out; subst eo24) | (go_at_call 17; (with_reducible refine (concordatref05_Same.calls k _ _ t448 _ _ l1 t454 _ ?side1 ?side2 ?side3 ?side4 A17.out).mono ?_); (case side1 => repeat (first | exact (Kd.R_reads' HO451.out).2.2 | (with_reducible refine Kd.C_alloc ?_ _) | (with_reducible refine Kd.C_drewN ?_ _) | (with_reducible refine Kd.C_drew ?_))); (case side2 => exact (Kd.R_reads' HO451.out).2.1); (case side3 => repeat (first | exact (Kd.C_below HR1.out (by repeat (first | (with_reducible first | exact HB.out | apply below_alloc | apply pw_below_drewN | apply below_drew1) | exact HB.out))) | (with_reducible refine Kd.C_alloc ?_ _) | (with_reducible refine Kd.C_drewN ?_ _) | (with_reducible refine Kd.C_drew ?_))); (case side4 => exact HC1.out); rintro e w' ⟨rfl, ⟨nd, rfl⟩⟩))
                go_ret
                exact ⟨by first | rfl | (simp [errW_none, errW_some] <;> rfl) | (simp [*, errW_none, errW_some] <;> rfl), by repeat (first | (with_reducible first | exact HB.out | apply below_alloc | apply pw_below_drewN | apply below_drew1) | exact HB.out)⟩
              · replace c16 := Bool.eq_false_iff.mpr c16
                subst c16
                have H1 : (none) = some r := by rw [if_neg (show ¬ (false = true) by decide)] at H; exact H
                clear H
                have H := H1
                clear H1
                exact absurd H (by simp)
            · replace c14 := Bool.eq_false_iff.mpr c14
              subst c14
              have H1 : (none) = some r := by rw [if_neg (show ¬ (false = true) by decide)] at H; exact H
              clear H
              have H := H1
              clear H1
              exact absurd H (by simp)
          · replace c12 := Bool.eq_false_iff.mpr c12
            subst c12
            have H1 : (none) = some r := by rw [if_neg (show ¬ (false = true) by decide)] at H; exact H
            clear H
            have H := H1
            clear H1
            exact absurd H (by simp)
        · replace c11 := Bool.eq_false_iff.mpr c11
          subst c11
          have H1 : (none) = some r := by rw [if_neg (show ¬ (false = true) by decide)] at H; exact H
          clear H
          have H := H1
          clear H1
          exact absurd H (by simp)
      · replace c10 := Bool.eq_false_iff.mpr c10
        subst c10
        have H1 : (none) = some r := by rw [if_neg (show ¬ (false = true) by decide)] at H; exact H
        clear H
        have H := H1
        clear H1
        exact absurd H (by simp)
    · replace c6 := Bool.eq_false_iff.mpr c6
      subst c6
      have H1 : (some true) = some r := by rw [if_neg (show ¬ (false = true) by decide)] at H; exact H
      clear H
      have H := H1
      clear H1
      obtain rfl := Option.some.inj H
      go_enter Try.func6, Try.ntmps6
      go_wp2_with (first | ((with_reducible refine gate_callee (f := 8) rfl ?_); refine goesL_ (some 13) rfl rfl Try.func8 (by kernel_rfl) rfl #[] rfl (by (try simp only [List.map_toArray, List.map_cons, List.map_nil]); first | done | rfl | (simp only [List.length_drop, List.length_take]; rfl)) ?_; (with_reducible refine (concordatlaw07_awake.calls k  true _ A3.out).mono ?_); rintro e w25 ⟨rfl, hb⟩; refine ⟨_, rfl, ?_⟩; have n0_ := Aside0.mk (below_step (by repeat (first | (with_reducible first | exact HB.out | apply below_alloc | apply pw_below_drewN | apply below_drew1) | exact HB.out)) hb); clear HB; have HB := n0_; clear n0_; (try clear hb); (try clear hb2); (try clear hk); (try clear hi)) | ((with_reducible refine gate_callee (f := 9) rfl ?_); refine goesL_ (some 18) rfl rfl Try.func9 (by kernel_rfl) rfl #[.slice A0 l0.length c0, .slice A1 l1.length c1, .slice none 0 0] rfl (by (try simp only [List.map_toArray, List.map_cons, List.map_nil]); first | done | rfl | (simp only [List.length_drop, List.length_take]; rfl)) ?_; (refine (concordatlaw07_few.calls _ _ l0 _ _ l1 _ _ ([] : List Int) false _ ?side1 ?side2 ?side3 ?side4 ?side5 ?side6 A5.out).mono ?_); (case side1 => repeat (first | exact (Kd.C_below HR0.out HB.out) | (with_reducible refine Kd.C_alloc ?_ _) | (with_reducible refine Kd.C_drewN ?_ _) | (with_reducible refine Kd.C_drew ?_))); (case side2 => exact HC0.out); (case side3 => repeat (first | exact (Kd.C_below HR1.out HB.out) | (with_reducible refine Kd.C_alloc ?_ _) | (with_reducible refine Kd.C_drewN ?_ _) | (with_reducible refine Kd.C_drew ?_))); (case side4 => exact HC1.out); (case side5 => exact Kd.C_nil _ _); (case side6 => exact Nat.le_refl _); rintro e w' ⟨rfl, ⟨nd, rfl⟩⟩; refine ⟨_, rfl, ?_⟩))
      go_ret
      exact ⟨by first | rfl | (simp [errW_none, errW_some] <;> rfl) | (simp [*, errW_none, errW_some] <;> rfl), by repeat (first | (with_reducible first | exact HB.out | apply below_alloc | apply pw_below_drewN | apply below_drew1) | exact HB.out)⟩
  · replace c4 := Bool.eq_false_iff.mpr c4
    subst c4
    have H1 : (none) = some r := by rw [if_neg (show ¬ (false = true) by decide)] at H; exact H
    clear H
    have H := H1
    clear H1
    exact absurd H (by simp)

/-- THE ONE PURE STATEMENT of concordatlaw07_Diff3Sides: yours. -/
def concordatlaw07_Diff3Sides.Pure : Prop := ∀ (l0 : List Int) (l1 : List Int), l0.length ≤ maxLen → l0.length * 8 ≤ 140737488351232 → (∀ x ∈ l0, (Lit.int .i64 x).wf = true) → l1.length ≤ maxLen → l1.length * 8 ≤ 140737488351232 → (∀ x ∈ l1, (Lit.int .i64 x).wf = true) → ∃ k, concordatlaw07_Diff3Sides.f k l0 l1 = some true
theorem concordatlaw07_Diff3Sides.walk (P : concordatlaw07_Diff3Sides.Pure) (a0 : Option Addr) (len0 cap0 : Nat) (z0 : List Int) (a1 : Option Addr) (len1 cap1 : Nat) (z1 : List Int) (w : World) (w0 : (a0 = none ∧ len0 = 0 ∧ cap0 = 0 ∧ z0 = []) ∨ ∃ x, a0 = some x ∧ len0 ≤ cap0 ∧ cap0 ≤ maxLen ∧ z0.length = cap0 ∧ (∀ i, i < z0.length → w.cell? (x.add i) = some (.int .i64 (z0.getD i 0))) ∧ ∀ n ∈ z0, (Lit.int .i64 n).wf = true) (y0 : len0 * 8 ≤ 140737488351232) (w1 : (a1 = none ∧ len1 = 0 ∧ cap1 = 0 ∧ z1 = []) ∨ ∃ x, a1 = some x ∧ len1 ≤ cap1 ∧ cap1 ≤ maxLen ∧ z1.length = cap1 ∧ (∀ i, i < z1.length → w.cell? (x.add i) = some (.int .i64 (z1.getD i 0))) ∧ ∀ n ∈ z1, (Lit.int .i64 n).wf = true) (y1 : len1 * 8 ≤ 140737488351232) :
    Calls Try.prog 6 #[.slice a0 len0 cap0, .slice a1 len1 cap1] w fun e w' => e = .returned (.bool true) ∧ Below w.heap.size w w' := by
  obtain ⟨l0, rfl, hr0, hm0, hw0, hc0⟩ := ReadsInt.ofRowC w0
  obtain ⟨l1, rfl, hr1, hm1, hw1, hc1⟩ := ReadsInt.ofRowC w1
  obtain ⟨k, h⟩ := P l0 l1 hm0 y0 hw0 hm1 y1 hw1
  refine (concordatlaw07_Diff3Sides.calls k _ _ l0 _ _ l1 true w (Kd.C_of_reads (d := (0 : Int)) (h1 := fun _ => rfl) hr0) hc0 (Kd.C_of_reads (d := (0 : Int)) (h1 := fun _ => rfl) hr1) hc1 h).mono ?_
  rintro e w' ⟨rfl, hd⟩
  exact ⟨rfl, hd⟩

/-! ### concordatlaw07_Diff3Turned: function 7 -/
def concordatlaw07_Diff3Turned.l0 : Nat → List Int → List Int → List Int → List (S41) → List (S41) → Int → Option (Bool)
  | 0, _, _, _, _, _, _ => none
  | k + 1, x0, x1, x2, x9, x10, x11 => if x11 < (x9.length : Int) then (if 0 ≤ x11 then (if ((rd_T41 x9 x11).f0) = 1 then (if x11 < (x10.length : Int) then (if ((rd_T41 x10 x11).f0) = 2 then (if (!(((rd_T41 x10 x11).f1.f0) == ((rd_T41 x9 x11).f1.f0)) || (!(((rd_T41 x10 x11).f1.f1) == ((rd_T41 x9 x11).f1.f1)))) = true then (none) else (if (!(((rd_T41 x10 x11).f2.f0) == ((rd_T41 x9 x11).f3.f0)) || (!(((rd_T41 x10 x11).f2.f1) == ((rd_T41 x9 x11).f3.f1)))) = true then (none) else (if (!(((rd_T41 x10 x11).f3.f0) == ((rd_T41 x9 x11).f2.f0)) || (!(((rd_T41 x10 x11).f3.f1) == ((rd_T41 x9 x11).f2.f1)))) = true then (none) else (concordatlaw07_Diff3Turned.l0 k x0 x1 x2 x9 x10 (wrap64 (x11 + 1)))))) else (none)) else (none)) else (if ((rd_T41 x9 x11).f0) = 2 then (if x11 < (x10.length : Int) then (if ((rd_T41 x10 x11).f0) = 1 then (if (!(((rd_T41 x10 x11).f1.f0) == ((rd_T41 x9 x11).f1.f0)) || (!(((rd_T41 x10 x11).f1.f1) == ((rd_T41 x9 x11).f1.f1)))) = true then (none) else (if (!(((rd_T41 x10 x11).f2.f0) == ((rd_T41 x9 x11).f3.f0)) || (!(((rd_T41 x10 x11).f2.f1) == ((rd_T41 x9 x11).f3.f1)))) = true then (none) else (if (!(((rd_T41 x10 x11).f3.f0) == ((rd_T41 x9 x11).f2.f0)) || (!(((rd_T41 x10 x11).f3.f1) == ((rd_T41 x9 x11).f2.f1)))) = true then (none) else (concordatlaw07_Diff3Turned.l0 k x0 x1 x2 x9 x10 (wrap64 (x11 + 1)))))) else (none)) else (none)) else (if x11 < (x10.length : Int) then (if ((rd_T41 x10 x11).f0) = ((rd_T41 x9 x11).f0) then (if (!(((rd_T41 x10 x11).f1.f0) == ((rd_T41 x9 x11).f1.f0)) || (!(((rd_T41 x10 x11).f1.f1) == ((rd_T41 x9 x11).f1.f1)))) = true then (none) else (if (!(((rd_T41 x10 x11).f2.f0) == ((rd_T41 x9 x11).f3.f0)) || (!(((rd_T41 x10 x11).f2.f1) == ((rd_T41 x9 x11).f3.f1)))) = true then (none) else (if (!(((rd_T41 x10 x11).f3.f0) == ((rd_T41 x9 x11).f2.f0)) || (!(((rd_T41 x10 x11).f3.f1) == ((rd_T41 x9 x11).f2.f1)))) = true then (none) else (concordatlaw07_Diff3Turned.l0 k x0 x1 x2 x9 x10 (wrap64 (x11 + 1)))))) else (none)) else (none)))) else (none)) else ((diff3_Merge.f k x0 x1 x2).bind fun bt463 => ((diff3_Merge.f k x0 x2 x1).bind fun bt467 => (if (bt463.2 == bt467.2) = true then ((concordatref05_Same.f k bt463.1 bt467.1).bind fun t471 => (some t471)) else (none))))
def concordatlaw07_Diff3Turned.f (k : Nat) (l0 : List Int) (l1 : List Int) (l2 : List Int) : Option (Bool) := (concordatlaw07_awake.f k).bind fun t455 => (if t455 = true then ((concordatlaw07_few.f l0 l1 l2).bind fun t456 => (if t456 = true then ((diff3_Chunks.f k l0 l1 l2).bind fun t457 => ((diff3_Chunks.f k l0 l2 l1).bind fun t460 => (if (t457.length : Int) = (t460.length : Int) then (concordatlaw07_Diff3Turned.l0 k l0 l1 l2 t457 t460 0) else (none)))) else (some true))) else (none))
theorem concordatlaw07_Diff3Turned.mono_l : ∀ k, (∀ y0 y1 y2 y3 y4 y5, LeO (concordatlaw07_Diff3Turned.l0 k y0 y1 y2 y3 y4 y5) (concordatlaw07_Diff3Turned.l0 (k + 1) y0 y1 y2 y3 y4 y5))
  | 0 => fun _ _ _ _ _ _ r h => by simp [concordatlaw07_Diff3Turned.l0] at h
  | k + 1 => by
    have ih0 := concordatlaw07_Diff3Turned.mono_l k
    · intro y0 y1 y2 y3 y4 y5
      unfold concordatlaw07_Diff3Turned.l0
      repeat' first
      | (with_reducible exact ih0 _ _ _ _ _ _)
      | (with_reducible exact concordatlaw07_awake.mono _)
      | (with_reducible exact concordatref05_Same.mono _ _ _)
      | (with_reducible exact diff3_Chunks.mono _ _ _ _)
      | (with_reducible exact diff3_Merge.mono _ _ _ _)
      | (with_reducible exact LeO.refl _)
      | (with_reducible exact LeO.none _)
      | (with_reducible refine LeO.ite ?_ ?_)
      | (with_reducible refine LeO.bind ?_ (fun _ => ?_))
      | exact ih0 _ _ _ _ _ _
      | exact concordatlaw07_awake.mono _
      | exact concordatref05_Same.mono _ _ _
      | exact diff3_Chunks.mono _ _ _ _
      | exact diff3_Merge.mono _ _ _ _
      | exact LeO.none _
      | refine LeO.ite ?_ ?_
      | refine LeO.bind ?_ (fun _ => ?_)
theorem concordatlaw07_Diff3Turned.mono : ∀ a0 a1 a2 k, LeO (concordatlaw07_Diff3Turned.f k a0 a1 a2) (concordatlaw07_Diff3Turned.f (k + 1) a0 a1 a2) := by
  intro a0 a1 a2 k
  have ih0 := concordatlaw07_Diff3Turned.mono_l k
  unfold concordatlaw07_Diff3Turned.f
  repeat' first
      | (with_reducible exact ih0 _ _ _ _ _ _)
      | (with_reducible exact concordatlaw07_awake.mono _)
      | (with_reducible exact concordatref05_Same.mono _ _ _)
      | (with_reducible exact diff3_Chunks.mono _ _ _ _)
      | (with_reducible exact diff3_Merge.mono _ _ _ _)
      | (with_reducible exact LeO.refl _)
      | (with_reducible exact LeO.none _)
      | (with_reducible refine LeO.ite ?_ ?_)
      | (with_reducible refine LeO.bind ?_ (fun _ => ?_))
      | exact ih0 _ _ _ _ _ _
      | exact concordatlaw07_awake.mono _
      | exact concordatref05_Same.mono _ _ _
      | exact diff3_Chunks.mono _ _ _ _
      | exact diff3_Merge.mono _ _ _ _
      | exact LeO.none _
      | refine LeO.ite ?_ ?_
      | refine LeO.bind ?_ (fun _ => ?_)
set_option maxHeartbeats 8000000 in
set_option maxRecDepth 100000 in
theorem concordatlaw07_Diff3Turned.calls (k : Nat) (A0 : Option Addr) (c0 : Nat) (l0 : List Int) (A1 : Option Addr) (c1 : Nat) (l1 : List Int) (A2 : Option Addr) (c2 : Nat) (l2 : List Int) (r : Bool) (w : World) (hr0 : Kd.C (Kd.int .i64) w A0 l0.length l0) (hc0 : l0.length ≤ c0) (hr1 : Kd.C (Kd.int .i64) w A1 l1.length l1) (hc1 : l1.length ≤ c1) (hr2 : Kd.C (Kd.int .i64) w A2 l2.length l2) (hc2 : l2.length ≤ c2) (h : concordatlaw07_Diff3Turned.f k l0 l1 l2 = some r) :
    Calls Try.prog 7 #[.slice A0 l0.length c0, .slice A1 l1.length c1, .slice A2 l2.length c2] w fun e w' => e = .returned (.bool r) ∧ Below w.heap.size w w' := by
  have hu39 := Try.underlying39
  have HR0 := Aside0.mk hr0
  have HC0 := Aside0.mk hc0
  clear hr0 hc0
  have HR1 := Aside0.mk hr1
  have HC1 := Aside0.mk hc1
  clear hr1 hc1
  have HR2 := Aside0.mk hr2
  have HC2 := Aside0.mk hc2
  clear hr2 hc2
  have HB := Aside0.mk (Below.refl w.heap.size w)
  have H : ((concordatlaw07_awake.f k).bind fun t455 => (if t455 = true then ((concordatlaw07_few.f l0 l1 l2).bind fun t456 => (if t456 = true then ((diff3_Chunks.f k l0 l1 l2).bind fun t457 => ((diff3_Chunks.f k l0 l2 l1).bind fun t460 => (if (t457.length : Int) = (t460.length : Int) then (concordatlaw07_Diff3Turned.l0 k l0 l1 l2 t457 t460 0) else (none)))) else (some true))) else (none))) = some r := h
  clear h
  replace H := Option.bind_eq_some_iff.mp H
  obtain ⟨t455, A40, H⟩ := H
  replace H : (if t455 = true then ((concordatlaw07_few.f l0 l1 l2).bind fun t456 => (if t456 = true then ((diff3_Chunks.f k l0 l1 l2).bind fun t457 => ((diff3_Chunks.f k l0 l2 l1).bind fun t460 => (if (t457.length : Int) = (t460.length : Int) then (concordatlaw07_Diff3Turned.l0 k l0 l1 l2 t457 t460 0) else (none)))) else (some true))) else (none)) = some r := H
  have A4 := Aside0.mk A40
  clear A40
  by_cases c5 : t455 = true
  · subst c5
    have H1 : ((concordatlaw07_few.f l0 l1 l2).bind fun t456 => (if t456 = true then ((diff3_Chunks.f k l0 l1 l2).bind fun t457 => ((diff3_Chunks.f k l0 l2 l1).bind fun t460 => (if (t457.length : Int) = (t460.length : Int) then (concordatlaw07_Diff3Turned.l0 k l0 l1 l2 t457 t460 0) else (none)))) else (some true))) = some r := by rw [if_pos rfl] at H; exact H
    clear H
    have H := H1
    clear H1
    replace H := Option.bind_eq_some_iff.mp H
    obtain ⟨t456, A60, H⟩ := H
    replace H : (if t456 = true then ((diff3_Chunks.f k l0 l1 l2).bind fun t457 => ((diff3_Chunks.f k l0 l2 l1).bind fun t460 => (if (t457.length : Int) = (t460.length : Int) then (concordatlaw07_Diff3Turned.l0 k l0 l1 l2 t457 t460 0) else (none)))) else (some true)) = some r := H
    have A6 := Aside0.mk A60
    clear A60
    by_cases c7 : t456 = true
    · subst c7
      have H1 : ((diff3_Chunks.f k l0 l1 l2).bind fun t457 => ((diff3_Chunks.f k l0 l2 l1).bind fun t460 => (if (t457.length : Int) = (t460.length : Int) then (concordatlaw07_Diff3Turned.l0 k l0 l1 l2 t457 t460 0) else (none)))) = some r := by rw [if_pos rfl] at H; exact H
      clear H
      have H := H1
      clear H1
      replace H := Option.bind_eq_some_iff.mp H
      obtain ⟨t457, A80, H⟩ := H
      replace H : ((diff3_Chunks.f k l0 l2 l1).bind fun t460 => (if (t457.length : Int) = (t460.length : Int) then (concordatlaw07_Diff3Turned.l0 k l0 l1 l2 t457 t460 0) else (none))) = some r := H
      have A8 := Aside0.mk A80
      clear A80
      replace H := Option.bind_eq_some_iff.mp H
      obtain ⟨t460, A90, H⟩ := H
      replace H : (if (t457.length : Int) = (t460.length : Int) then (concordatlaw07_Diff3Turned.l0 k l0 l1 l2 t457 t460 0) else (none)) = some r := H
      have A9 := Aside0.mk A90
      clear A90
      by_cases c10 : (t457.length : Int) = (t460.length : Int)
      · rw [if_pos c10] at H
        have c10b0 : ((t457.length : Int) == (t460.length : Int)) = true := beq_iff_eq.mpr c10
        have c10b1 : ((t457.length : Int) != (t460.length : Int)) = false := bne_eq_false_iff_eq.mpr c10
        have c10b2 : (t457.length == t460.length) = true := by first | simpa using c10 | (simp at c10 ⊢; omega)
        clear c10
        have H' := Aside0.mk H
        clear H
        go_enter Try.func7, Try.ntmps7
        go_wp2_with (first | (go_at_call 8; (with_reducible refine (concordatlaw07_awake.calls k  true _ A4.out).mono ?_); rintro e w11 ⟨rfl, hb⟩; have n0_ := Aside0.mk (below_step (by repeat (first | (with_reducible first | exact HB.out | apply below_alloc | apply pw_below_drewN | apply below_drew1) | exact HB.out)) hb); clear HB; have HB := n0_; clear n0_; (try clear hb); (try clear hb2); (try clear hk); (try clear hi)) | (go_at_call 9; (with_reducible refine (concordatlaw07_few.calls _ _ l0 _ _ l1 _ _ l2 true _ ?side1 ?side2 ?side3 ?side4 ?side5 ?side6 A6.out).mono ?_); (case side1 => repeat (first | exact (Kd.C_below HR0.out HB.out) | (with_reducible refine Kd.C_alloc ?_ _) | (with_reducible refine Kd.C_drewN ?_ _) | (with_reducible refine Kd.C_drew ?_))); (case side2 => exact HC0.out); (case side3 => repeat (first | exact (Kd.C_below HR1.out HB.out) | (with_reducible refine Kd.C_alloc ?_ _) | (with_reducible refine Kd.C_drewN ?_ _) | (with_reducible refine Kd.C_drew ?_))); (case side4 => exact HC1.out); (case side5 => repeat (first | exact (Kd.C_below HR2.out HB.out) | (with_reducible refine Kd.C_alloc ?_ _) | (with_reducible refine Kd.C_drewN ?_ _) | (with_reducible refine Kd.C_drew ?_))); (case side6 => exact HC2.out); rintro e w' ⟨rfl, ⟨nd, rfl⟩⟩; (try first | exact ⟨rfl, _, World.drewN_drewN _ _ _⟩ | exact ⟨rfl, _, Eq.trans (World.drewN_drewN _ _ _) (congrArg (World.drewN _) (Nat.add_assoc _ _ _))⟩)) | (go_at_call 10; (with_reducible refine (diff3_Chunks.calls k _ _ l0 _ _ l1 _ _ l2 t457 _ ?side1 ?side2 ?side3 ?side4 ?side5 ?side6 A8.out).mono ?_); (case side1 => repeat (first | exact (Kd.C_below HR0.out (by repeat (first | (with_reducible first | exact HB.out | apply below_alloc | apply pw_below_drewN | apply below_drew1) | exact HB.out))) | (with_reducible refine Kd.C_alloc ?_ _) | (with_reducible refine Kd.C_drewN ?_ _) | (with_reducible refine Kd.C_drew ?_))); (case side2 => exact HC0.out); (case side3 => repeat (first | exact (Kd.C_below HR1.out (by repeat (first | (with_reducible first | exact HB.out | apply below_alloc | apply pw_below_drewN | apply below_drew1) | exact HB.out))) | (with_reducible refine Kd.C_alloc ?_ _) | (with_reducible refine Kd.C_drewN ?_ _) | (with_reducible refine Kd.C_drew ?_))); (case side4 => exact HC1.out); (case side5 => repeat (first | exact (Kd.C_below HR2.out (by repeat (first | (with_reducible first | exact HB.out | apply below_alloc | apply pw_below_drewN | apply below_drew1) | exact HB.out))) | (with_reducible refine Kd.C_alloc ?_ _) | (with_reducible refine Kd.C_drewN ?_ _) | (with_reducible refine Kd.C_drew ?_))); (case side6 => exact HC2.out); rintro e w12 ⟨v458, rfl, ho0, hb⟩; have n0_ := Aside0.mk (Kd.R_lower ho0 (below_size (by repeat (first | (with_reducible first | exact HB.out | apply below_alloc | apply pw_below_drewN | apply below_drew1) | exact HB.out)))); have n1_ := Aside0.mk (below_step (by repeat (first | (with_reducible first | exact HB.out | apply below_alloc | apply pw_below_drewN | apply below_drew1) | exact HB.out)) hb); clear HB; have HO459 := n0_; have HB := n1_; clear n0_ n1_; (try clear hb); (try clear hb2); (try clear hk); (try clear hi); (try clear ho0)) | (go_at_call 10; (with_reducible refine (diff3_Chunks.calls k _ _ l0 _ _ l2 _ _ l1 t460 _ ?side1 ?side2 ?side3 ?side4 ?side5 ?side6 A9.out).mono ?_); (case side1 => repeat (first | exact (Kd.C_below HR0.out HB.out) | (with_reducible refine Kd.C_alloc ?_ _) | (with_reducible refine Kd.C_drewN ?_ _) | (with_reducible refine Kd.C_drew ?_))); (case side2 => exact HC0.out); (case side3 => repeat (first | exact (Kd.C_below HR2.out HB.out) | (with_reducible refine Kd.C_alloc ?_ _) | (with_reducible refine Kd.C_drewN ?_ _) | (with_reducible refine Kd.C_drew ?_))); (case side4 => exact HC2.out); (case side5 => repeat (first | exact (Kd.C_below HR1.out HB.out) | (with_reducible refine Kd.C_alloc ?_ _) | (with_reducible refine Kd.C_drewN ?_ _) | (with_reducible refine Kd.C_drew ?_))); (case side6 => exact HC1.out); rintro e w13 ⟨v461, rfl, ho0, hb⟩; have n0_ := Aside0.mk (Kd.R_elder' (by (with_reducible repeat (first | apply Kd.R_alloc | apply Kd.R_drewN | apply Kd.R_drew)); exact HO459.out) (Kd.R_base ho0) hb); have n1_ := Aside0.mk (Kd.R_lower (Kd.R_new' ho0 (Kd.R_lt (by (with_reducible repeat (first | apply Kd.R_alloc | apply Kd.R_drewN | apply Kd.R_drew)); exact HO459.out))) (below_size (by repeat (first | (with_reducible first | exact HB.out | apply below_alloc | apply pw_below_drewN | apply below_drew1) | exact HB.out)))); have n2_ := Aside0.mk (below_step (by repeat (first | (with_reducible first | exact HB.out | apply below_alloc | apply pw_below_drewN | apply below_drew1) | exact HB.out)) hb); clear HO459; clear HB; have HO459 := n0_; have HO462 := n1_; have HB := n2_; clear n0_ n1_ n2_; (try clear hb); (try clear hb2); (try clear hk); (try clear hi); (try clear ho0); obtain ⟨Ao14, co14, eo14⟩ := Kd.R_slice HO459.out; subst eo14; obtain ⟨Ao15, co15, eo15⟩ := Kd.R_slice HO462.out; subst eo15))
        repeat (go_quiet (first | (go_at_call 8; (with_reducible refine (concordatlaw07_awake.calls k  true _ A4.out).mono ?_); rintro e w11 ⟨rfl, hb⟩; have n0_ := Aside0.mk (below_step (by repeat (first | (with_reducible first | exact HB.out | apply below_alloc | apply pw_below_drewN | apply below_drew1) | exact HB.out)) hb); clear HB; have HB := n0_; clear n0_; (try clear hb); (try clear hb2); (try clear hk); (try clear hi)) | (go_at_call 9; (with_reducible refine (concordatlaw07_few.calls _ _ l0 _ _ l1 _ _ l2 true _ ?side1 ?side2 ?side3 ?side4 ?side5 ?side6 A6.out).mono ?_); (case side1 => repeat (first | exact (Kd.C_below HR0.out HB.out) | (with_reducible refine Kd.C_alloc ?_ _) | (with_reducible refine Kd.C_drewN ?_ _) | (with_reducible refine Kd.C_drew ?_))); (case side2 => exact HC0.out); (case side3 => repeat (first | exact (Kd.C_below HR1.out HB.out) | (with_reducible refine Kd.C_alloc ?_ _) | (with_reducible refine Kd.C_drewN ?_ _) | (with_reducible refine Kd.C_drew ?_))); (case side4 => exact HC1.out); (case side5 => repeat (first | exact (Kd.C_below HR2.out HB.out) | (with_reducible refine Kd.C_alloc ?_ _) | (with_reducible refine Kd.C_drewN ?_ _) | (with_reducible refine Kd.C_drew ?_))); (case side6 => exact HC2.out); rintro e w' ⟨rfl, ⟨nd, rfl⟩⟩; (try first | exact ⟨rfl, _, World.drewN_drewN _ _ _⟩ | exact ⟨rfl, _, Eq.trans (World.drewN_drewN _ _ _) (congrArg (World.drewN _) (Nat.add_assoc _ _ _))⟩)) | (go_at_call 10; (with_reducible refine (diff3_Chunks.calls k _ _ l0 _ _ l1 _ _ l2 t457 _ ?side1 ?side2 ?side3 ?side4 ?side5 ?side6 A8.out).mono ?_); (case side1 => repeat (first | exact (Kd.C_below HR0.out (by repeat (first | (with_reducible first | exact HB.out | apply below_alloc | apply pw_below_drewN | apply below_drew1) | exact HB.out))) | (with_reducible refine Kd.C_alloc ?_ _) | (with_reducible refine Kd.C_drewN ?_ _) | (with_reducible refine Kd.C_drew ?_))); (case side2 => exact HC0.out); (case side3 => repeat (first | exact (Kd.C_below HR1.out (by repeat (first | (with_reducible first | exact HB.out | apply below_alloc | apply pw_below_drewN | apply below_drew1) | exact HB.out))) | (with_reducible refine Kd.C_alloc ?_ _) | (with_reducible refine Kd.C_drewN ?_ _) | (with_reducible refine Kd.C_drew ?_))); (case side4 => exact HC1.out); (case side5 => repeat (first | exact (Kd.C_below HR2.out (by repeat (first | (with_reducible first | exact HB.out | apply below_alloc | apply pw_below_drewN | apply below_drew1) | exact HB.out))) | (with_reducible refine Kd.C_alloc ?_ _) | (with_reducible refine Kd.C_drewN ?_ _) | (with_reducible refine Kd.C_drew ?_))); (case side6 => exact HC2.out); rintro e w12 ⟨v458, rfl, ho0, hb⟩; have n0_ := Aside0.mk (Kd.R_lower ho0 (below_size (by repeat (first | (with_reducible first | exact HB.out | apply below_alloc | apply pw_below_drewN | apply below_drew1) | exact HB.out)))); have n1_ := Aside0.mk (below_step (by repeat (first | (with_reducible first | exact HB.out | apply below_alloc | apply pw_below_drewN | apply below_drew1) | exact HB.out)) hb); clear HB; have HO459 := n0_; have HB := n1_; clear n0_ n1_; (try clear hb); (try clear hb2); (try clear hk); (try clear hi); (try clear ho0)) | (go_at_call 10; (with_reducible refine (diff3_Chunks.calls k _ _ l0 _ _ l2 _ _ l1 t460 _ ?side1 ?side2 ?side3 ?side4 ?side5 ?side6 A9.out).mono ?_); (case side1 => repeat (first | exact (Kd.C_below HR0.out HB.out) | (with_reducible refine Kd.C_alloc ?_ _) | (with_reducible refine Kd.C_drewN ?_ _) | (with_reducible refine Kd.C_drew ?_))); (case side2 => exact HC0.out); (case side3 => repeat (first | exact (Kd.C_below HR2.out HB.out) | (with_reducible refine Kd.C_alloc ?_ _) | (with_reducible refine Kd.C_drewN ?_ _) | (with_reducible refine Kd.C_drew ?_))); (case side4 => exact HC2.out); (case side5 => repeat (first | exact (Kd.C_below HR1.out HB.out) | (with_reducible refine Kd.C_alloc ?_ _) | (with_reducible refine Kd.C_drewN ?_ _) | (with_reducible refine Kd.C_drew ?_))); (case side6 => exact HC1.out); rintro e w13 ⟨v461, rfl, ho0, hb⟩; have n0_ := Aside0.mk (Kd.R_elder' (by (with_reducible repeat (first | apply Kd.R_alloc | apply Kd.R_drewN | apply Kd.R_drew)); exact HO459.out) (Kd.R_base ho0) hb); have n1_ := Aside0.mk (Kd.R_lower (Kd.R_new' ho0 (Kd.R_lt (by (with_reducible repeat (first | apply Kd.R_alloc | apply Kd.R_drewN | apply Kd.R_drew)); exact HO459.out))) (below_size (by repeat (first | (with_reducible first | exact HB.out | apply below_alloc | apply pw_below_drewN | apply below_drew1) | exact HB.out)))); have n2_ := Aside0.mk (below_step (by repeat (first | (with_reducible first | exact HB.out | apply below_alloc | apply pw_below_drewN | apply below_drew1) | exact HB.out)) hb); clear HO459; clear HB; have HO459 := n0_; have HO462 := n1_; have HB := n2_; clear n0_ n1_ n2_; (try clear hb); (try clear hb2); (try clear hk); (try clear hi); (try clear ho0); obtain ⟨Ao14, co14, eo14⟩ := Kd.R_slice HO459.out; subst eo14; obtain ⟨Ao15, co15, eo15⟩ := Kd.R_slice HO462.out; subst eo15)); try go_wp2_with (first | (go_at_call 8; (with_reducible refine (concordatlaw07_awake.calls k  true _ A4.out).mono ?_); rintro e w11 ⟨rfl, hb⟩; have n0_ := Aside0.mk (below_step (by repeat (first | (with_reducible first | exact HB.out | apply below_alloc | apply pw_below_drewN | apply below_drew1) | exact HB.out)) hb); clear HB; have HB := n0_; clear n0_; (try clear hb); (try clear hb2); (try clear hk); (try clear hi)) | (go_at_call 9; (with_reducible refine (concordatlaw07_few.calls _ _ l0 _ _ l1 _ _ l2 true _ ?side1 ?side2 ?side3 ?side4 ?side5 ?side6 A6.out).mono ?_); (case side1 => repeat (first | exact (Kd.C_below HR0.out HB.out) | (with_reducible refine Kd.C_alloc ?_ _) | (with_reducible refine Kd.C_drewN ?_ _) | (with_reducible refine Kd.C_drew ?_))); (case side2 => exact HC0.out); (case side3 => repeat (first | exact (Kd.C_below HR1.out HB.out) | (with_reducible refine Kd.C_alloc ?_ _) | (with_reducible refine Kd.C_drewN ?_ _) | (with_reducible refine Kd.C_drew ?_))); (case side4 => exact HC1.out); (case side5 => repeat (first | exact (Kd.C_below HR2.out HB.out) | (with_reducible refine Kd.C_alloc ?_ _) | (with_reducible refine Kd.C_drewN ?_ _) | (with_reducible refine Kd.C_drew ?_))); (case side6 => exact HC2.out); rintro e w' ⟨rfl, ⟨nd, rfl⟩⟩; (try first | exact ⟨rfl, _, World.drewN_drewN _ _ _⟩ | exact ⟨rfl, _, Eq.trans (World.drewN_drewN _ _ _) (congrArg (World.drewN _) (Nat.add_assoc _ _ _))⟩)) | (go_at_call 10; (with_reducible refine (diff3_Chunks.calls k _ _ l0 _ _ l1 _ _ l2 t457 _ ?side1 ?side2 ?side3 ?side4 ?side5 ?side6 A8.out).mono ?_); (case side1 => repeat (first | exact (Kd.C_below HR0.out (by repeat (first | (with_reducible first | exact HB.out | apply below_alloc | apply pw_below_drewN | apply below_drew1) | exact HB.out))) | (with_reducible refine Kd.C_alloc ?_ _) | (with_reducible refine Kd.C_drewN ?_ _) | (with_reducible refine Kd.C_drew ?_))); (case side2 => exact HC0.out); (case side3 => repeat (first | exact (Kd.C_below HR1.out (by repeat (first | (with_reducible first | exact HB.out | apply below_alloc | apply pw_below_drewN | apply below_drew1) | exact HB.out))) | (with_reducible refine Kd.C_alloc ?_ _) | (with_reducible refine Kd.C_drewN ?_ _) | (with_reducible refine Kd.C_drew ?_))); (case side4 => exact HC1.out); (case side5 => repeat (first | exact (Kd.C_below HR2.out (by repeat (first | (with_reducible first | exact HB.out | apply below_alloc | apply pw_below_drewN | apply below_drew1) | exact HB.out))) | (with_reducible refine Kd.C_alloc ?_ _) | (with_reducible refine Kd.C_drewN ?_ _) | (with_reducible refine Kd.C_drew ?_))); (case side6 => exact HC2.out); rintro e w12 ⟨v458, rfl, ho0, hb⟩; have n0_ := Aside0.mk (Kd.R_lower ho0 (below_size (by repeat (first | (with_reducible first | exact HB.out | apply below_alloc | apply pw_below_drewN | apply below_drew1) | exact HB.out)))); have n1_ := Aside0.mk (below_step (by repeat (first | (with_reducible first | exact HB.out | apply below_alloc | apply pw_below_drewN | apply below_drew1) | exact HB.out)) hb); clear HB; have HO459 := n0_; have HB := n1_; clear n0_ n1_; (try clear hb); (try clear hb2); (try clear hk); (try clear hi); (try clear ho0)) | (go_at_call 10; (with_reducible refine (diff3_Chunks.calls k _ _ l0 _ _ l2 _ _ l1 t460 _ ?side1 ?side2 ?side3 ?side4 ?side5 ?side6 A9.out).mono ?_); (case side1 => repeat (first | exact (Kd.C_below HR0.out HB.out) | (with_reducible refine Kd.C_alloc ?_ _) | (with_reducible refine Kd.C_drewN ?_ _) | (with_reducible refine Kd.C_drew ?_))); (case side2 => exact HC0.out); (case side3 => repeat (first | exact (Kd.C_below HR2.out HB.out) | (with_reducible refine Kd.C_alloc ?_ _) | (with_reducible refine Kd.C_drewN ?_ _) | (with_reducible refine Kd.C_drew ?_))); (case side4 => exact HC2.out); (case side5 => repeat (first | exact (Kd.C_below HR1.out HB.out) | (with_reducible refine Kd.C_alloc ?_ _) | (with_reducible refine Kd.C_drewN ?_ _) | (with_reducible refine Kd.C_drew ?_))); (case side6 => exact HC1.out); rintro e w13 ⟨v461, rfl, ho0, hb⟩; have n0_ := Aside0.mk (Kd.R_elder' (by (with_reducible repeat (first | apply Kd.R_alloc | apply Kd.R_drewN | apply Kd.R_drew)); exact HO459.out) (Kd.R_base ho0) hb); have n1_ := Aside0.mk (Kd.R_lower (Kd.R_new' ho0 (Kd.R_lt (by (with_reducible repeat (first | apply Kd.R_alloc | apply Kd.R_drewN | apply Kd.R_drew)); exact HO459.out))) (below_size (by repeat (first | (with_reducible first | exact HB.out | apply below_alloc | apply pw_below_drewN | apply below_drew1) | exact HB.out)))); have n2_ := Aside0.mk (below_step (by repeat (first | (with_reducible first | exact HB.out | apply below_alloc | apply pw_below_drewN | apply below_drew1) | exact HB.out)) hb); clear HO459; clear HB; have HO459 := n0_; have HO462 := n1_; have HB := n2_; clear n0_ n1_ n2_; (try clear hb); (try clear hb2); (try clear hk); (try clear hi); (try clear ho0); obtain ⟨Ao14, co14, eo14⟩ := Kd.R_slice HO459.out; subst eo14; obtain ⟨Ao15, co15, eo15⟩ := Kd.R_slice HO462.out; subst eo15)))
        go_loopg [11] k (fun kq v11 w' => ∃ (x11_1 : Int), v11 = .int .i64 x11_1 ∧ Aside0 (concordatlaw07_Diff3Turned.l0 kq l0 l1 l2 t457 t460 x11_1 = some r) ∧ Aside0 (kq ≤ k) ∧ Aside0 (Kd.R k41 41 w' w.heap.size (fun k_ => some k_ ≠ ((.slice Ao15 t460.length co15) : Value).ownBlock) (.slice Ao14 t457.length co14) t457) ∧ Aside0 (Kd.R k41 41 w' w.heap.size (fun k_ => some k_ ≠ ((.slice Ao14 t457.length co14) : Value).ownBlock) (.slice Ao15 t460.length co15) t460) ∧ Aside0 (Below w.heap.size w w'))
        case atStart => exact ⟨(0), (by first | rfl | (simp; done) | (simp [*]; done)), H', ⟨Nat.le_refl _⟩, ⟨by (with_reducible repeat (first | apply Kd.R_alloc | apply Kd.R_drewN | apply Kd.R_drew)); exact Kd.R_mono HO459.out (fun _ hk => hk.2)⟩, ⟨by (with_reducible repeat (first | apply Kd.R_alloc | apply Kd.R_drewN | apply Kd.R_drew)); exact Kd.R_mono HO462.out (fun _ hk => hk.2)⟩, ⟨by repeat (first | (with_reducible first | exact HB.out | apply below_alloc | apply pw_below_drewN | apply below_drew1) | exact HB.out)⟩⟩
        case round =>
          clear H'
          try clear c1
          try clear c2
          try clear p2
          try clear c5
          try clear c7
          try clear c10
          try clear c10b0
          try clear c10b1
          try clear c10b2
          obtain ⟨x11_1, rfl, HA, HK1, HO_9, HO_10, HB⟩ := hrel
          cases gk with
          | zero => exact absurd HA.out (by simp [concordatlaw07_Diff3Turned.l0])
          | succ k1 =>
            have H := HA.out
            clear HA
            simp only [concordatlaw07_Diff3Turned.l0] at H
            by_cases c16 : x11_1 < (t457.length : Int)
            · rw [if_pos c16] at H
              have c16b0 : decide (x11_1 < (t457.length : Int)) = true := decide_eq_true c16
              clear c16
              by_cases c17 : 0 ≤ x11_1
              · rw [if_pos c17] at H
                have c17b0 : decide (0 ≤ x11_1) = true := decide_eq_true c17
                clear c17
                by_cases c18 : ((rd_T41 t457 x11_1).f0) = 1
                · rw [if_pos c18] at H
                  have c18b0 : (((rd_T41 t457 x11_1).f0) == 1) = true := beq_iff_eq.mpr c18
                  have c18b1 : (((rd_T41 t457 x11_1).f0) != 1) = false := bne_eq_false_iff_eq.mpr c18
                  clear c18
                  by_cases c19 : x11_1 < (t460.length : Int)
                  · rw [if_pos c19] at H
                    have c19b0 : decide (x11_1 < (t460.length : Int)) = true := decide_eq_true c19
                    clear c19
                    by_cases c20 : ((rd_T41 t460 x11_1).f0) = 2
                    · rw [if_pos c20] at H
                      have c20b0 : (((rd_T41 t460 x11_1).f0) == 2) = true := beq_iff_eq.mpr c20
                      have c20b1 : (((rd_T41 t460 x11_1).f0) != 2) = false := bne_eq_false_iff_eq.mpr c20
                      clear c20
                      by_cases c21 : (!(((rd_T41 t460 x11_1).f1.f0) == ((rd_T41 t457 x11_1).f1.f0)) || (!(((rd_T41 t460 x11_1).f1.f1) == ((rd_T41 t457 x11_1).f1.f1)))) = true
                      · rw [if_pos c21] at H
                        exact absurd H (by simp)
                      · rw [if_neg c21] at H
                        have c21b0 : (!(((rd_T41 t460 x11_1).f1.f0) == ((rd_T41 t457 x11_1).f1.f0)) || (!(((rd_T41 t460 x11_1).f1.f1) == ((rd_T41 t457 x11_1).f1.f1)))) = false := by simpa using c21
                        clear c21
                        by_cases c22 : (!(((rd_T41 t460 x11_1).f2.f0) == ((rd_T41 t457 x11_1).f3.f0)) || (!(((rd_T41 t460 x11_1).f2.f1) == ((rd_T41 t457 x11_1).f3.f1)))) = true
                        · rw [if_pos c22] at H
                          exact absurd H (by simp)
                        · rw [if_neg c22] at H
                          have c22b0 : (!(((rd_T41 t460 x11_1).f2.f0) == ((rd_T41 t457 x11_1).f3.f0)) || (!(((rd_T41 t460 x11_1).f2.f1) == ((rd_T41 t457 x11_1).f3.f1)))) = false := by simpa using c22
                          clear c22
                          by_cases c23 : (!(((rd_T41 t460 x11_1).f3.f0) == ((rd_T41 t457 x11_1).f2.f0)) || (!(((rd_T41 t460 x11_1).f3.f1) == ((rd_T41 t457 x11_1).f2.f1)))) = true
                          · rw [if_pos c23] at H
                            exact absurd H (by simp)
                          · rw [if_neg c23] at H
                            have c23b0 : (!(((rd_T41 t460 x11_1).f3.f0) == ((rd_T41 t457 x11_1).f2.f0)) || (!(((rd_T41 t460 x11_1).f3.f1) == ((rd_T41 t457 x11_1).f2.f1)))) = false := by simpa using c23
                            clear c23
                            have H' := Aside0.mk H
                            clear H
                            have p472 : 0 ≤ (x11_1 : Int) := of_decide_eq_true (by first | (with_reducible assumption) | assumption)
                            have q472 : x11_1 < (t457.length : Int) := of_decide_eq_true (by first | (with_reducible assumption) | assumption)
                            obtain ⟨ad472, e472, hx472_0, hx472_1, hx472_2, hx472_3, hx472_4, hx472_5, hx472_6⟩ := at_T41 (Kd.R_reads' HO_9.out).2.2 x11_1 p472 q472
                            cases e472
                            replace p472 := eq_true p472
                            replace q472 := eq_true q472
                            have p473 : 0 ≤ (x11_1 : Int) := of_decide_eq_true (by first | (with_reducible assumption) | assumption)
                            have q473 : x11_1 < (t460.length : Int) := of_decide_eq_true (by first | (with_reducible assumption) | assumption)
                            obtain ⟨ad473, e473, hx473_0, hx473_1, hx473_2, hx473_3, hx473_4, hx473_5, hx473_6⟩ := at_T41 (Kd.R_reads' HO_10.out).2.2 x11_1 p473 q473
                            cases e473
                            replace p473 := eq_true p473
                            replace q473 := eq_true q473
                            have p474 : 0 ≤ (x11_1 : Int) := of_decide_eq_true (by first | (with_reducible assumption) | assumption)
                            have q474 : x11_1 < (t460.length : Int) := of_decide_eq_true (by first | (with_reducible assumption) | assumption)
                            obtain ⟨ad474, e474, hx474_0, hx474_1, hx474_2, hx474_3, hx474_4, hx474_5, hx474_6⟩ := at_T41 (Kd.R_reads' HO_10.out).2.2 x11_1 p474 q474
                            obtain rfl : ad473 = ad474 := (by injection e474)
                            replace p474 := eq_true p474
                            replace q474 := eq_true q474
                            have p475 : 0 ≤ (x11_1 : Int) := of_decide_eq_true (by first | (with_reducible assumption) | assumption)
                            have q475 : x11_1 < (t457.length : Int) := of_decide_eq_true (by first | (with_reducible assumption) | assumption)
                            obtain ⟨ad475, e475, hx475_0, hx475_1, hx475_2, hx475_3, hx475_4, hx475_5, hx475_6⟩ := at_T41 (Kd.R_reads' HO_9.out).2.2 x11_1 p475 q475
                            obtain rfl : ad472 = ad475 := (by injection e475)
                            replace p475 := eq_true p475
                            replace q475 := eq_true q475
                            have p476 : 0 ≤ (x11_1 : Int) := of_decide_eq_true (by first | (with_reducible assumption) | assumption)
                            have q476 : x11_1 < (t460.length : Int) := of_decide_eq_true (by first | (with_reducible assumption) | assumption)
                            obtain ⟨ad476, e476, hx476_0, hx476_1, hx476_2, hx476_3, hx476_4, hx476_5, hx476_6⟩ := at_T41 (Kd.R_reads' HO_10.out).2.2 x11_1 p476 q476
                            obtain rfl : ad473 = ad476 := (by injection e476)
                            replace p476 := eq_true p476
                            replace q476 := eq_true q476
                            have p477 : 0 ≤ (x11_1 : Int) := of_decide_eq_true (by first | (with_reducible assumption) | assumption)
                            have q477 : x11_1 < (t457.length : Int) := of_decide_eq_true (by first | (with_reducible assumption) | assumption)
                            obtain ⟨ad477, e477, hx477_0, hx477_1, hx477_2, hx477_3, hx477_4, hx477_5, hx477_6⟩ := at_T41 (Kd.R_reads' HO_9.out).2.2 x11_1 p477 q477
                            obtain rfl : ad472 = ad477 := (by injection e477)
                            replace p477 := eq_true p477
                            replace q477 := eq_true q477
                            have p478 : 0 ≤ (x11_1 : Int) := of_decide_eq_true (by first | (with_reducible assumption) | assumption)
                            have q478 : x11_1 < (t460.length : Int) := of_decide_eq_true (by first | (with_reducible assumption) | assumption)
                            obtain ⟨ad478, e478, hx478_0, hx478_1, hx478_2, hx478_3, hx478_4, hx478_5, hx478_6⟩ := at_T41 (Kd.R_reads' HO_10.out).2.2 x11_1 p478 q478
                            obtain rfl : ad473 = ad478 := (by injection e478)
                            replace p478 := eq_true p478
                            replace q478 := eq_true q478
                            have p479 : 0 ≤ (x11_1 : Int) := of_decide_eq_true (by first | (with_reducible assumption) | assumption)
                            have q479 : x11_1 < (t457.length : Int) := of_decide_eq_true (by first | (with_reducible assumption) | assumption)
                            obtain ⟨ad479, e479, hx479_0, hx479_1, hx479_2, hx479_3, hx479_4, hx479_5, hx479_6⟩ := at_T41 (Kd.R_reads' HO_9.out).2.2 x11_1 p479 q479
                            obtain rfl : ad472 = ad479 := (by injection e479)
                            replace p479 := eq_true p479
                            replace q479 := eq_true q479
                            go_wp2
                            repeat (go_quiet (fail); try go_wp2)
                            go_roundg k1
                            case measure => have := HK1.out; omega
                            case rel => exact ⟨(wrap64 (x11_1 + 1)), (by first | rfl | (simp; done) | (simp [*]; done)), H', ⟨by have := HK1.out; omega⟩, ⟨by (with_reducible repeat (first | apply Kd.R_alloc | apply Kd.R_drewN | apply Kd.R_drew)); first | exact HO_9.out | exact Kd.R_mono HO_9.out (fun _ _ => trivial)⟩, ⟨by (with_reducible repeat (first | apply Kd.R_alloc | apply Kd.R_drewN | apply Kd.R_drew)); first | exact HO_10.out | exact Kd.R_mono HO_10.out (fun _ _ => trivial)⟩, ⟨by repeat (first | (with_reducible first | exact HB.out | apply below_alloc | apply pw_below_drewN | apply below_drew1) | exact HB.out)⟩⟩
                    · rw [if_neg c20] at H
                      exact absurd H (by simp)
                  · rw [if_neg c19] at H
                    exact absurd H (by simp)
                · rw [if_neg c18] at H
                  have c18b0 : (((rd_T41 t457 x11_1).f0) == 1) = false := beq_eq_false_iff_ne.mpr c18
                  have c18b1 : (((rd_T41 t457 x11_1).f0) != 1) = true := bne_iff_ne.mpr c18
                  by_cases c24 : ((rd_T41 t457 x11_1).f0) = 2
                  · rw [if_pos c24] at H
                    have c24b0 : (((rd_T41 t457 x11_1).f0) == 2) = true := beq_iff_eq.mpr c24
                    have c24b1 : (((rd_T41 t457 x11_1).f0) != 2) = false := bne_eq_false_iff_eq.mpr c24
                    clear c24
                    by_cases c25 : x11_1 < (t460.length : Int)
                    · rw [if_pos c25] at H
                      have c25b0 : decide (x11_1 < (t460.length : Int)) = true := decide_eq_true c25
                      clear c25
                      by_cases c26 : ((rd_T41 t460 x11_1).f0) = 1
                      · rw [if_pos c26] at H
                        have c26b0 : (((rd_T41 t460 x11_1).f0) == 1) = true := beq_iff_eq.mpr c26
                        have c26b1 : (((rd_T41 t460 x11_1).f0) != 1) = false := bne_eq_false_iff_eq.mpr c26
                        clear c26
                        by_cases c27 : (!(((rd_T41 t460 x11_1).f1.f0) == ((rd_T41 t457 x11_1).f1.f0)) || (!(((rd_T41 t460 x11_1).f1.f1) == ((rd_T41 t457 x11_1).f1.f1)))) = true
                        · rw [if_pos c27] at H
                          exact absurd H (by simp)
                        · rw [if_neg c27] at H
                          have c27b0 : (!(((rd_T41 t460 x11_1).f1.f0) == ((rd_T41 t457 x11_1).f1.f0)) || (!(((rd_T41 t460 x11_1).f1.f1) == ((rd_T41 t457 x11_1).f1.f1)))) = false := by simpa using c27
                          clear c27
                          by_cases c28 : (!(((rd_T41 t460 x11_1).f2.f0) == ((rd_T41 t457 x11_1).f3.f0)) || (!(((rd_T41 t460 x11_1).f2.f1) == ((rd_T41 t457 x11_1).f3.f1)))) = true
                          · rw [if_pos c28] at H
                            exact absurd H (by simp)
                          · rw [if_neg c28] at H
                            have c28b0 : (!(((rd_T41 t460 x11_1).f2.f0) == ((rd_T41 t457 x11_1).f3.f0)) || (!(((rd_T41 t460 x11_1).f2.f1) == ((rd_T41 t457 x11_1).f3.f1)))) = false := by simpa using c28
                            clear c28
                            by_cases c29 : (!(((rd_T41 t460 x11_1).f3.f0) == ((rd_T41 t457 x11_1).f2.f0)) || (!(((rd_T41 t460 x11_1).f3.f1) == ((rd_T41 t457 x11_1).f2.f1)))) = true
                            · rw [if_pos c29] at H
                              exact absurd H (by simp)
                            · rw [if_neg c29] at H
                              have c29b0 : (!(((rd_T41 t460 x11_1).f3.f0) == ((rd_T41 t457 x11_1).f2.f0)) || (!(((rd_T41 t460 x11_1).f3.f1) == ((rd_T41 t457 x11_1).f2.f1)))) = false := by simpa using c29
                              clear c29
                              have H' := Aside0.mk H
                              clear H
                              have p472 : 0 ≤ (x11_1 : Int) := of_decide_eq_true (by first | (with_reducible assumption) | assumption)
                              have q472 : x11_1 < (t457.length : Int) := of_decide_eq_true (by first | (with_reducible assumption) | assumption)
                              obtain ⟨ad472, e472, hx472_0, hx472_1, hx472_2, hx472_3, hx472_4, hx472_5, hx472_6⟩ := at_T41 (Kd.R_reads' HO_9.out).2.2 x11_1 p472 q472
                              cases e472
                              replace p472 := eq_true p472
                              replace q472 := eq_true q472
                              have p480 : 0 ≤ (x11_1 : Int) := of_decide_eq_true (by first | (with_reducible assumption) | assumption)
                              have q480 : x11_1 < (t460.length : Int) := of_decide_eq_true (by first | (with_reducible assumption) | assumption)
                              obtain ⟨ad480, e480, hx480_0, hx480_1, hx480_2, hx480_3, hx480_4, hx480_5, hx480_6⟩ := at_T41 (Kd.R_reads' HO_10.out).2.2 x11_1 p480 q480
                              cases e480
                              replace p480 := eq_true p480
                              replace q480 := eq_true q480
                              have p481 : 0 ≤ (x11_1 : Int) := of_decide_eq_true (by first | (with_reducible assumption) | assumption)
                              have q481 : x11_1 < (t460.length : Int) := of_decide_eq_true (by first | (with_reducible assumption) | assumption)
                              obtain ⟨ad481, e481, hx481_0, hx481_1, hx481_2, hx481_3, hx481_4, hx481_5, hx481_6⟩ := at_T41 (Kd.R_reads' HO_10.out).2.2 x11_1 p481 q481
                              obtain rfl : ad480 = ad481 := (by injection e481)
                              replace p481 := eq_true p481
                              replace q481 := eq_true q481
                              have p482 : 0 ≤ (x11_1 : Int) := of_decide_eq_true (by first | (with_reducible assumption) | assumption)
                              have q482 : x11_1 < (t457.length : Int) := of_decide_eq_true (by first | (with_reducible assumption) | assumption)
                              obtain ⟨ad482, e482, hx482_0, hx482_1, hx482_2, hx482_3, hx482_4, hx482_5, hx482_6⟩ := at_T41 (Kd.R_reads' HO_9.out).2.2 x11_1 p482 q482
                              obtain rfl : ad472 = ad482 := (by injection e482)
                              replace p482 := eq_true p482
                              replace q482 := eq_true q482
                              have p483 : 0 ≤ (x11_1 : Int) := of_decide_eq_true (by first | (with_reducible assumption) | assumption)
                              have q483 : x11_1 < (t460.length : Int) := of_decide_eq_true (by first | (with_reducible assumption) | assumption)
                              obtain ⟨ad483, e483, hx483_0, hx483_1, hx483_2, hx483_3, hx483_4, hx483_5, hx483_6⟩ := at_T41 (Kd.R_reads' HO_10.out).2.2 x11_1 p483 q483
                              obtain rfl : ad480 = ad483 := (by injection e483)
                              replace p483 := eq_true p483
                              replace q483 := eq_true q483
                              have p484 : 0 ≤ (x11_1 : Int) := of_decide_eq_true (by first | (with_reducible assumption) | assumption)
                              have q484 : x11_1 < (t457.length : Int) := of_decide_eq_true (by first | (with_reducible assumption) | assumption)
                              obtain ⟨ad484, e484, hx484_0, hx484_1, hx484_2, hx484_3, hx484_4, hx484_5, hx484_6⟩ := at_T41 (Kd.R_reads' HO_9.out).2.2 x11_1 p484 q484
                              obtain rfl : ad472 = ad484 := (by injection e484)
                              replace p484 := eq_true p484
                              replace q484 := eq_true q484
                              have p485 : 0 ≤ (x11_1 : Int) := of_decide_eq_true (by first | (with_reducible assumption) | assumption)
                              have q485 : x11_1 < (t460.length : Int) := of_decide_eq_true (by first | (with_reducible assumption) | assumption)
                              obtain ⟨ad485, e485, hx485_0, hx485_1, hx485_2, hx485_3, hx485_4, hx485_5, hx485_6⟩ := at_T41 (Kd.R_reads' HO_10.out).2.2 x11_1 p485 q485
                              obtain rfl : ad480 = ad485 := (by injection e485)
                              replace p485 := eq_true p485
                              replace q485 := eq_true q485
                              have p486 : 0 ≤ (x11_1 : Int) := of_decide_eq_true (by first | (with_reducible assumption) | assumption)
                              have q486 : x11_1 < (t457.length : Int) := of_decide_eq_true (by first | (with_reducible assumption) | assumption)
                              obtain ⟨ad486, e486, hx486_0, hx486_1, hx486_2, hx486_3, hx486_4, hx486_5, hx486_6⟩ := at_T41 (Kd.R_reads' HO_9.out).2.2 x11_1 p486 q486
                              obtain rfl : ad472 = ad486 := (by injection e486)
                              replace p486 := eq_true p486
                              replace q486 := eq_true q486
                              go_wp2
                              repeat (go_quiet (fail); try go_wp2)
                              go_roundg k1
                              case measure => have := HK1.out; omega
                              case rel => exact ⟨(wrap64 (x11_1 + 1)), (by first | rfl | (simp; done) | (simp [*]; done)), H', ⟨by have := HK1.out; omega⟩, ⟨by (with_reducible repeat (first | apply Kd.R_alloc | apply Kd.R_drewN | apply Kd.R_drew)); first | exact HO_9.out | exact Kd.R_mono HO_9.out (fun _ _ => trivial)⟩, ⟨by (with_reducible repeat (first | apply Kd.R_alloc | apply Kd.R_drewN | apply Kd.R_drew)); first | exact HO_10.out | exact Kd.R_mono HO_10.out (fun _ _ => trivial)⟩, ⟨by repeat (first | (with_reducible first | exact HB.out | apply below_alloc | apply pw_below_drewN | apply below_drew1) | exact HB.out)⟩⟩
                      · rw [if_neg c26] at H
                        exact absurd H (by simp)
                    · rw [if_neg c25] at H
                      exact absurd H (by simp)
                  · rw [if_neg c24] at H
                    have c24b0 : (((rd_T41 t457 x11_1).f0) == 2) = false := beq_eq_false_iff_ne.mpr c24
                    have c24b1 : (((rd_T41 t457 x11_1).f0) != 2) = true := bne_iff_ne.mpr c24
                    by_cases c30 : x11_1 < (t460.length : Int)
                    · rw [if_pos c30] at H
                      have c30b0 : decide (x11_1 < (t460.length : Int)) = true := decide_eq_true c30
                      clear c30
                      by_cases c31 : ((rd_T41 t460 x11_1).f0) = ((rd_T41 t457 x11_1).f0)
                      · rw [if_pos c31] at H
                        have c31b0 : (((rd_T41 t460 x11_1).f0) == ((rd_T41 t457 x11_1).f0)) = true := beq_iff_eq.mpr c31
                        have c31b1 : (((rd_T41 t460 x11_1).f0) != ((rd_T41 t457 x11_1).f0)) = false := bne_eq_false_iff_eq.mpr c31
                        clear c31
                        by_cases c32 : (!(((rd_T41 t460 x11_1).f1.f0) == ((rd_T41 t457 x11_1).f1.f0)) || (!(((rd_T41 t460 x11_1).f1.f1) == ((rd_T41 t457 x11_1).f1.f1)))) = true
                        · rw [if_pos c32] at H
                          exact absurd H (by simp)
                        · rw [if_neg c32] at H
                          have c32b0 : (!(((rd_T41 t460 x11_1).f1.f0) == ((rd_T41 t457 x11_1).f1.f0)) || (!(((rd_T41 t460 x11_1).f1.f1) == ((rd_T41 t457 x11_1).f1.f1)))) = false := by simpa using c32
                          clear c32
                          by_cases c33 : (!(((rd_T41 t460 x11_1).f2.f0) == ((rd_T41 t457 x11_1).f3.f0)) || (!(((rd_T41 t460 x11_1).f2.f1) == ((rd_T41 t457 x11_1).f3.f1)))) = true
                          · rw [if_pos c33] at H
                            exact absurd H (by simp)
                          · rw [if_neg c33] at H
                            have c33b0 : (!(((rd_T41 t460 x11_1).f2.f0) == ((rd_T41 t457 x11_1).f3.f0)) || (!(((rd_T41 t460 x11_1).f2.f1) == ((rd_T41 t457 x11_1).f3.f1)))) = false := by simpa using c33
                            clear c33
                            by_cases c34 : (!(((rd_T41 t460 x11_1).f3.f0) == ((rd_T41 t457 x11_1).f2.f0)) || (!(((rd_T41 t460 x11_1).f3.f1) == ((rd_T41 t457 x11_1).f2.f1)))) = true
                            · rw [if_pos c34] at H
                              exact absurd H (by simp)
                            · rw [if_neg c34] at H
                              have c34b0 : (!(((rd_T41 t460 x11_1).f3.f0) == ((rd_T41 t457 x11_1).f2.f0)) || (!(((rd_T41 t460 x11_1).f3.f1) == ((rd_T41 t457 x11_1).f2.f1)))) = false := by simpa using c34
                              clear c34
                              have H' := Aside0.mk H
                              clear H
                              have p472 : 0 ≤ (x11_1 : Int) := of_decide_eq_true (by first | (with_reducible assumption) | assumption)
                              have q472 : x11_1 < (t457.length : Int) := of_decide_eq_true (by first | (with_reducible assumption) | assumption)
                              obtain ⟨ad472, e472, hx472_0, hx472_1, hx472_2, hx472_3, hx472_4, hx472_5, hx472_6⟩ := at_T41 (Kd.R_reads' HO_9.out).2.2 x11_1 p472 q472
                              cases e472
                              replace p472 := eq_true p472
                              replace q472 := eq_true q472
                              have p487 : 0 ≤ (x11_1 : Int) := of_decide_eq_true (by first | (with_reducible assumption) | assumption)
                              have q487 : x11_1 < (t460.length : Int) := of_decide_eq_true (by first | (with_reducible assumption) | assumption)
                              obtain ⟨ad487, e487, hx487_0, hx487_1, hx487_2, hx487_3, hx487_4, hx487_5, hx487_6⟩ := at_T41 (Kd.R_reads' HO_10.out).2.2 x11_1 p487 q487
                              cases e487
                              replace p487 := eq_true p487
                              replace q487 := eq_true q487
                              have p488 : 0 ≤ (x11_1 : Int) := of_decide_eq_true (by first | (with_reducible assumption) | assumption)
                              have q488 : x11_1 < (t460.length : Int) := of_decide_eq_true (by first | (with_reducible assumption) | assumption)
                              obtain ⟨ad488, e488, hx488_0, hx488_1, hx488_2, hx488_3, hx488_4, hx488_5, hx488_6⟩ := at_T41 (Kd.R_reads' HO_10.out).2.2 x11_1 p488 q488
                              obtain rfl : ad487 = ad488 := (by injection e488)
                              replace p488 := eq_true p488
                              replace q488 := eq_true q488
                              have p489 : 0 ≤ (x11_1 : Int) := of_decide_eq_true (by first | (with_reducible assumption) | assumption)
                              have q489 : x11_1 < (t457.length : Int) := of_decide_eq_true (by first | (with_reducible assumption) | assumption)
                              obtain ⟨ad489, e489, hx489_0, hx489_1, hx489_2, hx489_3, hx489_4, hx489_5, hx489_6⟩ := at_T41 (Kd.R_reads' HO_9.out).2.2 x11_1 p489 q489
                              obtain rfl : ad472 = ad489 := (by injection e489)
                              replace p489 := eq_true p489
                              replace q489 := eq_true q489
                              have p490 : 0 ≤ (x11_1 : Int) := of_decide_eq_true (by first | (with_reducible assumption) | assumption)
                              have q490 : x11_1 < (t460.length : Int) := of_decide_eq_true (by first | (with_reducible assumption) | assumption)
                              obtain ⟨ad490, e490, hx490_0, hx490_1, hx490_2, hx490_3, hx490_4, hx490_5, hx490_6⟩ := at_T41 (Kd.R_reads' HO_10.out).2.2 x11_1 p490 q490
                              obtain rfl : ad487 = ad490 := (by injection e490)
                              replace p490 := eq_true p490
                              replace q490 := eq_true q490
                              have p491 : 0 ≤ (x11_1 : Int) := of_decide_eq_true (by first | (with_reducible assumption) | assumption)
                              have q491 : x11_1 < (t457.length : Int) := of_decide_eq_true (by first | (with_reducible assumption) | assumption)
                              obtain ⟨ad491, e491, hx491_0, hx491_1, hx491_2, hx491_3, hx491_4, hx491_5, hx491_6⟩ := at_T41 (Kd.R_reads' HO_9.out).2.2 x11_1 p491 q491
                              obtain rfl : ad472 = ad491 := (by injection e491)
                              replace p491 := eq_true p491
                              replace q491 := eq_true q491
                              have p492 : 0 ≤ (x11_1 : Int) := of_decide_eq_true (by first | (with_reducible assumption) | assumption)
                              have q492 : x11_1 < (t460.length : Int) := of_decide_eq_true (by first | (with_reducible assumption) | assumption)
                              obtain ⟨ad492, e492, hx492_0, hx492_1, hx492_2, hx492_3, hx492_4, hx492_5, hx492_6⟩ := at_T41 (Kd.R_reads' HO_10.out).2.2 x11_1 p492 q492
                              obtain rfl : ad487 = ad492 := (by injection e492)
                              replace p492 := eq_true p492
                              replace q492 := eq_true q492
                              have p493 : 0 ≤ (x11_1 : Int) := of_decide_eq_true (by first | (with_reducible assumption) | assumption)
                              have q493 : x11_1 < (t457.length : Int) := of_decide_eq_true (by first | (with_reducible assumption) | assumption)
                              obtain ⟨ad493, e493, hx493_0, hx493_1, hx493_2, hx493_3, hx493_4, hx493_5, hx493_6⟩ := at_T41 (Kd.R_reads' HO_9.out).2.2 x11_1 p493 q493
                              obtain rfl : ad472 = ad493 := (by injection e493)
                              replace p493 := eq_true p493
                              replace q493 := eq_true q493
                              go_wp2
                              repeat (go_quiet (fail); try go_wp2)
                              go_roundg k1
                              case measure => have := HK1.out; omega
                              case rel => exact ⟨(wrap64 (x11_1 + 1)), (by first | rfl | (simp; done) | (simp [*]; done)), H', ⟨by have := HK1.out; omega⟩, ⟨by (with_reducible repeat (first | apply Kd.R_alloc | apply Kd.R_drewN | apply Kd.R_drew)); first | exact HO_9.out | exact Kd.R_mono HO_9.out (fun _ _ => trivial)⟩, ⟨by (with_reducible repeat (first | apply Kd.R_alloc | apply Kd.R_drewN | apply Kd.R_drew)); first | exact HO_10.out | exact Kd.R_mono HO_10.out (fun _ _ => trivial)⟩, ⟨by repeat (first | (with_reducible first | exact HB.out | apply below_alloc | apply pw_below_drewN | apply below_drew1) | exact HB.out)⟩⟩
                      · rw [if_neg c31] at H
                        exact absurd H (by simp)
                    · rw [if_neg c30] at H
                      exact absurd H (by simp)
              · rw [if_neg c17] at H
                exact absurd H (by simp)
            · rw [if_neg c16] at H
              have c16b0 : decide (x11_1 < (t457.length : Int)) = false := decide_eq_false c16
              clear c16
              replace H := Option.bind_eq_some_iff.mp H
              obtain ⟨⟨t463, t464⟩, A350, H⟩ := H
              replace H : ((diff3_Merge.f k1 l0 l2 l1).bind fun bt467 => (if (t464 == bt467.2) = true then ((concordatref05_Same.f k1 t463 bt467.1).bind fun t471 => (some t471)) else (none))) = some r := H
              have A35 := Aside0.mk A350
              clear A350
              replace H := Option.bind_eq_some_iff.mp H
              obtain ⟨⟨t467, t468⟩, A360, H⟩ := H
              replace H : (if (t464 == t468) = true then ((concordatref05_Same.f k1 t463 t467).bind fun t471 => (some t471)) else (none)) = some r := H
              have A36 := Aside0.mk A360
              clear A360
              by_cases c37 : (t464 == t468) = true
              · rw [if_pos c37] at H
                have c37b0 : (t464 == t468) = true := c37
                (try (have c37b1 : decide (t464 = t468) = true := by simpa using c37))
                (try (have c37b2 : (t464 == t468) = true := by simpa using c37))
                clear c37
                replace H := Option.bind_eq_some_iff.mp H
                obtain ⟨t471, A380, H⟩ := H
                replace H : (some t471) = some r := H
                have A38 := Aside0.mk A380
                clear A380
                obtain rfl := Option.some.inj H
                go_wp2_with (first | (go_at_call 11; (with_reducible refine (diff3_Merge.calls k1 _ _ l0 _ _ l1 _ _ l2 t463 t464 _ ?side1 ?side2 ?side3 ?side4 ?side5 ?side6 A35.out).mono ?_); (case side1 => repeat (first | exact (Kd.C_below HR0.out HB.out) | (with_reducible refine Kd.C_alloc ?_ _) | (with_reducible refine Kd.C_drewN ?_ _) | (with_reducible refine Kd.C_drew ?_))); (case side2 => exact HC0.out); (case side3 => repeat (first | exact (Kd.C_below HR1.out HB.out) | (with_reducible refine Kd.C_alloc ?_ _) | (with_reducible refine Kd.C_drewN ?_ _) | (with_reducible refine Kd.C_drew ?_))); (case side4 => exact HC1.out); (case side5 => repeat (first | exact (Kd.C_below HR2.out HB.out) | (with_reducible refine Kd.C_alloc ?_ _) | (with_reducible refine Kd.C_drewN ?_ _) | (with_reducible refine Kd.C_drew ?_))); (case side6 => exact HC2.out); rintro e w39 ⟨v465, rfl, ho0, hb⟩; have n0_ := Aside0.mk (Kd.R_below (by (with_reducible repeat (first | apply Kd.R_alloc | apply Kd.R_drewN | apply Kd.R_drew)); exact HO_9.out) hb); have n1_ := Aside0.mk (Kd.R_below (by (with_reducible repeat (first | apply Kd.R_alloc | apply Kd.R_drewN | apply Kd.R_drew)); exact HO_10.out) hb); have n2_ := Aside0.mk (Kd.R_lower ho0 (below_size (by repeat (first | (with_reducible first | exact HB.out | apply below_alloc | apply pw_below_drewN | apply below_drew1) | exact HB.out)))); have n3_ := Aside0.mk (below_step (by repeat (first | (with_reducible first | exact HB.out | apply below_alloc | apply pw_below_drewN | apply below_drew1) | exact HB.out)) hb); clear HO_9; clear HO_10; clear HB; have HO_9 := n0_; have HO_10 := n1_; have HO466 := n2_; have HB := n3_; clear n0_ n1_ n2_ n3_; (try clear hb); (try clear hb2); (try clear hk); (try clear hi); (try clear ho0)) | (go_at_call 11; (with_reducible refine (diff3_Merge.calls k1 _ _ l0 _ _ l2 _ _ l1 t467 t468 _ ?side1 ?side2 ?side3 ?side4 ?side5 ?side6 A36.out).mono ?_); (case side1 => repeat (first | exact (Kd.C_below HR0.out HB.out) | (with_reducible refine Kd.C_alloc ?_ _) | (with_reducible refine Kd.C_drewN ?_ _) | (with_reducible refine Kd.C_drew ?_))); (case side2 => exact HC0.out); (case side3 => repeat (first | exact (Kd.C_below HR2.out HB.out) | (with_reducible refine Kd.C_alloc ?_ _) | (with_reducible refine Kd.C_drewN ?_ _) | (with_reducible refine Kd.C_drew ?_))); (case side4 => exact HC2.out); (case side5 => repeat (first | exact (Kd.C_below HR1.out HB.out) | (with_reducible refine Kd.C_alloc ?_ _) | (with_reducible refine Kd.C_drewN ?_ _) | (with_reducible refine Kd.C_drew ?_))); (case side6 => exact HC1.out); rintro e w40 ⟨v469, rfl, ho0, hb⟩; have n0_ := Aside0.mk (Kd.R_below (by (with_reducible repeat (first | apply Kd.R_alloc | apply Kd.R_drewN | apply Kd.R_drew)); exact HO_9.out) hb); have n1_ := Aside0.mk (Kd.R_below (by (with_reducible repeat (first | apply Kd.R_alloc | apply Kd.R_drewN | apply Kd.R_drew)); exact HO_10.out) hb); have n2_ := Aside0.mk (Kd.R_elder' (by (with_reducible repeat (first | apply Kd.R_alloc | apply Kd.R_drewN | apply Kd.R_drew)); exact HO466.out) (Kd.R_base ho0) hb); have n3_ := Aside0.mk (Kd.R_lower (Kd.R_new' ho0 (Kd.R_lt (by (with_reducible repeat (first | apply Kd.R_alloc | apply Kd.R_drewN | apply Kd.R_drew)); exact HO466.out))) (below_size (by repeat (first | (with_reducible first | exact HB.out | apply below_alloc | apply pw_below_drewN | apply below_drew1) | exact HB.out)))); have n4_ := Aside0.mk (below_step (by repeat (first | (with_reducible first | exact HB.out | apply below_alloc | apply pw_below_drewN | apply below_drew1) | exact HB.out)) hb); clear HO_9; clear HO_10; clear HO466; clear HB; have HO_9 := n0_; have HO_10 := n1_; have HO466 := n2_; have HO470 := n3_; have HB := n4_; clear n0_ n1_ n2_ n3_ n4_; (try clear hb); (try clear hb2); (try clear hk); (try clear hi); (try clear ho0); obtain ⟨Ao41, co41, eo41⟩ := Kd.R_slice HO466.out; subst eo41; obtain ⟨Ao42, co42, eo42⟩ := Kd.R_slice HO470.out; subst eo42) | (go_at_call 17; (with_reducible refine (concordatref05_Same.calls k1 _ _ t463 _ _ t467 t471 _ ?side1 ?side2 ?side3 ?side4 A38.out).mono ?_); (case side1 => repeat (first | exact (Kd.R_reads' HO466.out).2.2 | (with_reducible refine Kd.C_alloc ?_ _) | (with_reducible refine Kd.C_drewN ?_ _) | (with_reducible refine Kd.C_drew ?_))); (case side2 => exact (Kd.R_reads' HO466.out).2.1); (case side3 => repeat (first | exact (Kd.R_reads' HO470.out).2.2 | (with_reducible refine Kd.C_alloc ?_ _) | (with_reducible refine Kd.C_drewN ?_ _) | (with_reducible refine Kd.C_drew ?_))); (case side4 => exact (Kd.R_reads' HO470.out).2.1); rintro e w' ⟨rfl, ⟨nd, rfl⟩⟩; (try first | exact ⟨rfl, _, World.drewN_drewN _ _ _⟩ | exact ⟨rfl, _, Eq.trans (World.drewN_drewN _ _ _) (congrArg (World.drewN _) (Nat.add_assoc _ _ _))⟩)))
                repeat (go_quiet (first | (go_at_call 11; (with_reducible refine (diff3_Merge.calls k1 _ _ l0 _ _ l1 _ _ l2 t463 t464 _ ?side1 ?side2 ?side3 ?side4 ?side5 ?side6 A35.out).mono ?_); (case side1 => repeat (first | exact (Kd.C_below HR0.out HB.out) | (with_reducible refine Kd.C_alloc ?_ _) | (with_reducible refine Kd.C_drewN ?_ _) | (with_reducible refine Kd.C_drew ?_))); (case side2 => exact HC0.out); (case side3 => repeat (first | exact (Kd.C_below HR1.out HB.out) | (with_reducible refine Kd.C_alloc ?_ _) | (with_reducible refine Kd.C_drewN ?_ _) | (with_reducible refine Kd.C_drew ?_))); (case side4 => exact HC1.out); (case side5 => repeat (first | exact (Kd.C_below HR2.out HB.out) | (with_reducible refine Kd.C_alloc ?_ _) | (with_reducible refine Kd.C_drewN ?_ _) | (with_reducible refine Kd.C_drew ?_))); (case side6 => exact HC2.out); rintro e w39 ⟨v465, rfl, ho0, hb⟩; have n0_ := Aside0.mk (Kd.R_below (by (with_reducible repeat (first | apply Kd.R_alloc | apply Kd.R_drewN | apply Kd.R_drew)); exact HO_9.out) hb); have n1_ := Aside0.mk (Kd.R_below (by (with_reducible repeat (first | apply Kd.R_alloc | apply Kd.R_drewN | apply Kd.R_drew)); exact HO_10.out) hb); have n2_ := Aside0.mk (Kd.R_lower ho0 (below_size (by repeat (first | (with_reducible first | exact HB.out | apply below_alloc | apply pw_below_drewN | apply below_drew1) | exact HB.out)))); have n3_ := Aside0.mk (below_step (by repeat (first | (with_reducible first | exact HB.out | apply below_alloc | apply pw_below_drewN | apply below_drew1) | exact HB.out)) hb); clear HO_9; clear HO_10; clear HB; have HO_9 := n0_; have HO_10 := n1_; have HO466 := n2_; have HB := n3_; clear n0_ n1_ n2_ n3_; (try clear hb); (try clear hb2); (try clear hk); (try clear hi); (try clear ho0)) | (go_at_call 11; (with_reducible refine (diff3_Merge.calls k1 _ _ l0 _ _ l2 _ _ l1 t467 t468 _ ?side1 ?side2 ?side3 ?side4 ?side5 ?side6 A36.out).mono ?_); (case side1 => repeat (first | exact (Kd.C_below HR0.out HB.out) | (with_reducible refine Kd.C_alloc ?_ _) | (with_reducible refine Kd.C_drewN ?_ _) | (with_reducible refine Kd.C_drew ?_))); (case side2 => exact HC0.out); (case side3 => repeat (first | exact (Kd.C_below HR2.out HB.out) | (with_reducible refine Kd.C_alloc ?_ _) | (with_reducible refine Kd.C_drewN ?_ _) | (with_reducible refine Kd.C_drew ?_))); (case side4 => exact HC2.out); (case side5 => repeat (first | exact (Kd.C_below HR1.out HB.out) | (with_reducible refine Kd.C_alloc ?_ _) | (with_reducible refine Kd.C_drewN ?_ _) | (with_reducible refine Kd.C_drew ?_))); (case side6 => exact HC1.out); rintro e w40 ⟨v469, rfl, ho0, hb⟩; have n0_ := Aside0.mk (Kd.R_below (by (with_reducible repeat (first | apply Kd.R_alloc | apply Kd.R_drewN | apply Kd.R_drew)); exact HO_9.out) hb); have n1_ := Aside0.mk (Kd.R_below (by (with_reducible repeat (first | apply Kd.R_alloc | apply Kd.R_drewN | apply Kd.R_drew)); exact HO_10.out) hb); have n2_ := Aside0.mk (Kd.R_elder' (by (with_reducible repeat (first | apply Kd.R_alloc | apply Kd.R_drewN | apply Kd.R_drew)); exact HO466.out) (Kd.R_base ho0) hb); have n3_ := Aside0.mk (Kd.R_lower (Kd.R_new' ho0 (Kd.R_lt (by (with_reducible repeat (first | apply Kd.R_alloc | apply Kd.R_drewN | apply Kd.R_drew)); exact HO466.out))) (below_size (by repeat (first | (with_reducible first | exact HB.out | apply below_alloc | apply pw_below_drewN | apply below_drew1) | exact HB.out)))); have n4_ := Aside0.mk (below_step (by repeat (first | (with_reducible first | exact HB.out | apply below_alloc | apply pw_below_drewN | apply below_drew1) | exact HB.out)) hb); clear HO_9; clear HO_10; clear HO466; clear HB; have HO_9 := n0_; have HO_10 := n1_; have HO466 := n2_; have HO470 := n3_; have HB := n4_; clear n0_ n1_ n2_ n3_ n4_; (try clear hb); (try clear hb2); (try clear hk); (try clear hi); (try clear ho0); obtain ⟨Ao41, co41, eo41⟩ := Kd.R_slice HO466.out; subst eo41; obtain ⟨Ao42, co42, eo42⟩ := Kd.R_slice HO470.out; subst eo42) | (go_at_call 17; (with_reducible refine (concordatref05_Same.calls k1 _ _ t463 _ _ t467 t471 _ ?side1 ?side2 ?side3 ?side4 A38.out).mono ?_); (case side1 => repeat (first | exact (Kd.R_reads' HO466.out).2.2 | (with_reducible refine Kd.C_alloc ?_ _) | (with_reducible refine Kd.C_drewN ?_ _) | (with_reducible refine Kd.C_drew ?_))); (case side2 => exact (Kd.R_reads' HO466.out).2.1); (case side3 => repeat (first | exact (Kd.R_reads' HO470.out).2.2 | (with_reducible refine Kd.C_alloc ?_ _) | (with_reducible refine Kd.C_drewN ?_ _) | (with_reducible refine Kd.C_drew ?_))); (case side4 => exact (Kd.R_reads' HO470.out).2.1); rintro e w' ⟨rfl, ⟨nd, rfl⟩⟩; (try first | exact ⟨rfl, _, World.drewN_drewN _ _ _⟩ | exact ⟨rfl, _, Eq.trans (World.drewN_drewN _ _ _) (congrArg (World.drewN _) (Nat.add_assoc _ _ _))⟩))); try go_wp2_with (first | (go_at_call 11; (with_reducible refine (diff3_Merge.calls k1 _ _ l0 _ _ l1 _ _ l2 t463 t464 _ ?side1 ?side2 ?side3 ?side4 ?side5 ?side6 A35.out).mono ?_); (case side1 => repeat (first | exact (Kd.C_below HR0.out HB.out) | (with_reducible refine Kd.C_alloc ?_ _) | (with_reducible refine Kd.C_drewN ?_ _) | (with_reducible refine Kd.C_drew ?_))); (case side2 => exact HC0.out); (case side3 => repeat (first | exact (Kd.C_below HR1.out HB.out) | (with_reducible refine Kd.C_alloc ?_ _) | (with_reducible refine Kd.C_drewN ?_ _) | (with_reducible refine Kd.C_drew ?_))); (case side4 => exact HC1.out); (case side5 => repeat (first | exact (Kd.C_below HR2.out HB.out) | (with_reducible refine Kd.C_alloc ?_ _) | (with_reducible refine Kd.C_drewN ?_ _) | (with_reducible refine Kd.C_drew ?_))); (case side6 => exact HC2.out); rintro e w39 ⟨v465, rfl, ho0, hb⟩; have n0_ := Aside0.mk (Kd.R_below (by (with_reducible repeat (first | apply Kd.R_alloc | apply Kd.R_drewN | apply Kd.R_drew)); exact HO_9.out) hb); have n1_ := Aside0.mk (Kd.R_below (by (with_reducible repeat (first | apply Kd.R_alloc | apply Kd.R_drewN | apply Kd.R_drew)); exact HO_10.out) hb); have n2_ := Aside0.mk (Kd.R_lower ho0 (below_size (by repeat (first | (with_reducible first | exact HB.out | apply below_alloc | apply pw_below_drewN | apply below_drew1) | exact HB.out)))); have n3_ := Aside0.mk (below_step (by repeat (first | (with_reducible first | exact HB.out | apply below_alloc | apply pw_below_drewN | apply below_drew1) | exact HB.out)) hb); clear HO_9; clear HO_10; clear HB; have HO_9 := n0_; have HO_10 := n1_; have HO466 := n2_; have HB := n3_; clear n0_ n1_ n2_ n3_; (try clear hb); (try clear hb2); (try clear hk); (try clear hi); (try clear ho0)) | (go_at_call 11; (with_reducible refine (diff3_Merge.calls k1 _ _ l0 _ _ l2 _ _ l1 t467 t468 _ ?side1 ?side2 ?side3 ?side4 ?side5 ?side6 A36.out).mono ?_); (case side1 => repeat (first | exact (Kd.C_below HR0.out HB.out) | (with_reducible refine Kd.C_alloc ?_ _) | (with_reducible refine Kd.C_drewN ?_ _) | (with_reducible refine Kd.C_drew ?_))); (case side2 => exact HC0.out); (case side3 => repeat (first | exact (Kd.C_below HR2.out HB.out) | (with_reducible refine Kd.C_alloc ?_ _) | (with_reducible refine Kd.C_drewN ?_ _) | (with_reducible refine Kd.C_drew ?_))); (case side4 => exact HC2.out); (case side5 => repeat (first | exact (Kd.C_below HR1.out HB.out) | (with_reducible refine Kd.C_alloc ?_ _) | (with_reducible refine Kd.C_drewN ?_ _) | (with_reducible refine Kd.C_drew ?_))); (case side6 => exact HC1.out); rintro e w40 ⟨v469, rfl, ho0, hb⟩; have n0_ := Aside0.mk (Kd.R_below (by (with_reducible repeat (first | apply Kd.R_alloc | apply Kd.R_drewN | apply Kd.R_drew)); exact HO_9.out) hb); have n1_ := Aside0.mk (Kd.R_below (by (with_reducible repeat (first | apply Kd.R_alloc | apply Kd.R_drewN | apply Kd.R_drew)); exact HO_10.out) hb); have n2_ := Aside0.mk (Kd.R_elder' (by (with_reducible repeat (first | apply Kd.R_alloc | apply Kd.R_drewN | apply Kd.R_drew)); exact HO466.out) (Kd.R_base ho0) hb); have n3_ := Aside0.mk (Kd.R_lower (Kd.R_new' ho0 (Kd.R_lt (by (with_reducible repeat (first | apply Kd.R_alloc | apply Kd.R_drewN | apply Kd.R_drew)); exact HO466.out))) (below_size (by repeat (first | (with_reducible first | exact HB.out | apply below_alloc | apply pw_below_drewN | apply below_drew1) | exact HB.out)))); have n4_ := Aside0.mk (below_step (by repeat (first | (with_reducible first | exact HB.out | apply below_alloc | apply pw_below_drewN | apply below_drew1) | exact HB.out)) hb); clear HO_9; clear HO_10; clear HO466; clear HB; have HO_9 := n0_; have HO_10 := n1_; have HO466 := n2_; have HO470 := n3_; have HB := n4_; clear n0_ n1_ n2_ n3_ n4_; (try clear hb); (try clear hb2); (try clear hk); (try clear hi); (try clear ho0); obtain ⟨Ao41, co41, eo41⟩ := Kd.R_slice HO466.out; subst eo41; obtain ⟨Ao42, co42, eo42⟩ := Kd.R_slice HO470.out; subst eo42) | (go_at_call 17; (with_reducible refine (concordatref05_Same.calls k1 _ _ t463 _ _ t467 t471 _ ?side1 ?side2 ?side3 ?side4 A38.out).mono ?_); (case side1 => repeat (first | exact (Kd.R_reads' HO466.out).2.2 | (with_reducible refine Kd.C_alloc ?_ _) | (with_reducible refine Kd.C_drewN ?_ _) | (with_reducible refine Kd.C_drew ?_))); (case side2 => exact (Kd.R_reads' HO466.out).2.1); (case side3 => repeat (first | exact (Kd.R_reads' HO470.out).2.2 | (with_reducible refine Kd.C_alloc ?_ _) | (with_reducible refine Kd.C_drewN ?_ _) | (with_reducible refine Kd.C_drew ?_))); (case side4 => exact (Kd.R_reads' HO470.out).2.1); rintro e w' ⟨rfl, ⟨nd, rfl⟩⟩; (try first | exact ⟨rfl, _, World.drewN_drewN _ _ _⟩ | exact ⟨rfl, _, Eq.trans (World.drewN_drewN _ _ _) (congrArg (World.drewN _) (Nat.add_assoc _ _ _))⟩))))
                go_ret
                exact ⟨by first | rfl | (simp [errW_none, errW_some] <;> rfl) | (simp [*, errW_none, errW_some] <;> rfl), by repeat (first | (with_reducible first | exact HB.out | apply below_alloc | apply pw_below_drewN | apply below_drew1) | exact HB.out)⟩
              · rw [if_neg c37] at H
                exact absurd H (by simp)
      · rw [if_neg c10] at H
        exact absurd H (by simp)
    · replace c7 := Bool.eq_false_iff.mpr c7
      subst c7
      have H1 : (some true) = some r := by rw [if_neg (show ¬ (false = true) by decide)] at H; exact H
      clear H
      have H := H1
      clear H1
      obtain rfl := Option.some.inj H
      go_enter Try.func7, Try.ntmps7
      go_wp2_with (first | (go_at_call 8; (with_reducible refine (concordatlaw07_awake.calls k  true _ A4.out).mono ?_); rintro e w43 ⟨rfl, hb⟩; have n0_ := Aside0.mk (below_step (by repeat (first | (with_reducible first | exact HB.out | apply below_alloc | apply pw_below_drewN | apply below_drew1) | exact HB.out)) hb); clear HB; have HB := n0_; clear n0_; (try clear hb); (try clear hb2); (try clear hk); (try clear hi)) | (go_at_call 9; (with_reducible refine (concordatlaw07_few.calls _ _ l0 _ _ l1 _ _ l2 false _ ?side1 ?side2 ?side3 ?side4 ?side5 ?side6 A6.out).mono ?_); (case side1 => repeat (first | exact (Kd.C_below HR0.out HB.out) | (with_reducible refine Kd.C_alloc ?_ _) | (with_reducible refine Kd.C_drewN ?_ _) | (with_reducible refine Kd.C_drew ?_))); (case side2 => exact HC0.out); (case side3 => repeat (first | exact (Kd.C_below HR1.out HB.out) | (with_reducible refine Kd.C_alloc ?_ _) | (with_reducible refine Kd.C_drewN ?_ _) | (with_reducible refine Kd.C_drew ?_))); (case side4 => exact HC1.out); (case side5 => repeat (first | exact (Kd.C_below HR2.out HB.out) | (with_reducible refine Kd.C_alloc ?_ _) | (with_reducible refine Kd.C_drewN ?_ _) | (with_reducible refine Kd.C_drew ?_))); (case side6 => exact HC2.out); rintro e w' ⟨rfl, ⟨nd, rfl⟩⟩; (try first | exact ⟨rfl, _, World.drewN_drewN _ _ _⟩ | exact ⟨rfl, _, Eq.trans (World.drewN_drewN _ _ _) (congrArg (World.drewN _) (Nat.add_assoc _ _ _))⟩)))
      repeat (go_quiet (first | (go_at_call 8; (with_reducible refine (concordatlaw07_awake.calls k  true _ A4.out).mono ?_); rintro e w43 ⟨rfl, hb⟩; have n0_ := Aside0.mk (below_step (by repeat (first | (with_reducible first | exact HB.out | apply below_alloc | apply pw_below_drewN | apply below_drew1) | exact HB.out)) hb); clear HB; have HB := n0_; clear n0_; (try clear hb); (try clear hb2); (try clear hk); (try clear hi)) | (go_at_call 9; (with_reducible refine (concordatlaw07_few.calls _ _ l0 _ _ l1 _ _ l2 false _ ?side1 ?side2 ?side3 ?side4 ?side5 ?side6 A6.out).mono ?_); (case side1 => repeat (first | exact (Kd.C_below HR0.out HB.out) | (with_reducible refine Kd.C_alloc ?_ _) | (with_reducible refine Kd.C_drewN ?_ _) | (with_reducible refine Kd.C_drew ?_))); (case side2 => exact HC0.out); (case side3 => repeat (first | exact (Kd.C_below HR1.out HB.out) | (with_reducible refine Kd.C_alloc ?_ _) | (with_reducible refine Kd.C_drewN ?_ _) | (with_reducible refine Kd.C_drew ?_))); (case side4 => exact HC1.out); (case side5 => repeat (first | exact (Kd.C_below HR2.out HB.out) | (with_reducible refine Kd.C_alloc ?_ _) | (with_reducible refine Kd.C_drewN ?_ _) | (with_reducible refine Kd.C_drew ?_))); (case side6 => exact HC2.out); rintro e w' ⟨rfl, ⟨nd, rfl⟩⟩; (try first | exact ⟨rfl, _, World.drewN_drewN _ _ _⟩ | exact ⟨rfl, _, Eq.trans (World.drewN_drewN _ _ _) (congrArg (World.drewN _) (Nat.add_assoc _ _ _))⟩))); try go_wp2_with (first | (go_at_call 8; (with_reducible refine (concordatlaw07_awake.calls k  true _ A4.out).mono ?_); rintro e w43 ⟨rfl, hb⟩; have n0_ := Aside0.mk (below_step (by repeat (first | (with_reducible first | exact HB.out | apply below_alloc | apply pw_below_drewN | apply below_drew1) | exact HB.out)) hb); clear HB; have HB := n0_; clear n0_; (try clear hb); (try clear hb2); (try clear hk); (try clear hi)) | (go_at_call 9; (with_reducible refine (concordatlaw07_few.calls _ _ l0 _ _ l1 _ _ l2 false _ ?side1 ?side2 ?side3 ?side4 ?side5 ?side6 A6.out).mono ?_); (case side1 => repeat (first | exact (Kd.C_below HR0.out HB.out) | (with_reducible refine Kd.C_alloc ?_ _) | (with_reducible refine Kd.C_drewN ?_ _) | (with_reducible refine Kd.C_drew ?_))); (case side2 => exact HC0.out); (case side3 => repeat (first | exact (Kd.C_below HR1.out HB.out) | (with_reducible refine Kd.C_alloc ?_ _) | (with_reducible refine Kd.C_drewN ?_ _) | (with_reducible refine Kd.C_drew ?_))); (case side4 => exact HC1.out); (case side5 => repeat (first | exact (Kd.C_below HR2.out HB.out) | (with_reducible refine Kd.C_alloc ?_ _) | (with_reducible refine Kd.C_drewN ?_ _) | (with_reducible refine Kd.C_drew ?_))); (case side6 => exact HC2.out); rintro e w' ⟨rfl, ⟨nd, rfl⟩⟩; (try first | exact ⟨rfl, _, World.drewN_drewN _ _ _⟩ | exact ⟨rfl, _, Eq.trans (World.drewN_drewN _ _ _) (congrArg (World.drewN _) (Nat.add_assoc _ _ _))⟩))))
      go_ret
      exact ⟨by first | rfl | (simp [errW_none, errW_some] <;> rfl) | (simp [*, errW_none, errW_some] <;> rfl), by repeat (first | (with_reducible first | exact HB.out | apply below_alloc | apply pw_below_drewN | apply below_drew1) | exact HB.out)⟩
  · replace c5 := Bool.eq_false_iff.mpr c5
    subst c5
    have H1 : (none) = some r := by rw [if_neg (show ¬ (false = true) by decide)] at H; exact H
    clear H
    have H := H1
    clear H1
    exact absurd H (by simp)

/-- THE ONE PURE STATEMENT of concordatlaw07_Diff3Turned: yours. -/
def concordatlaw07_Diff3Turned.Pure : Prop := ∀ (l0 : List Int) (l1 : List Int) (l2 : List Int), l0.length ≤ maxLen → l0.length * 8 ≤ 140737488351232 → (∀ x ∈ l0, (Lit.int .i64 x).wf = true) → l1.length ≤ maxLen → l1.length * 8 ≤ 140737488351232 → (∀ x ∈ l1, (Lit.int .i64 x).wf = true) → l2.length ≤ maxLen → l2.length * 8 ≤ 140737488351232 → (∀ x ∈ l2, (Lit.int .i64 x).wf = true) → ∃ k, concordatlaw07_Diff3Turned.f k l0 l1 l2 = some true
theorem concordatlaw07_Diff3Turned.walk (P : concordatlaw07_Diff3Turned.Pure) (a0 : Option Addr) (len0 cap0 : Nat) (z0 : List Int) (a1 : Option Addr) (len1 cap1 : Nat) (z1 : List Int) (a2 : Option Addr) (len2 cap2 : Nat) (z2 : List Int) (w : World) (w0 : (a0 = none ∧ len0 = 0 ∧ cap0 = 0 ∧ z0 = []) ∨ ∃ x, a0 = some x ∧ len0 ≤ cap0 ∧ cap0 ≤ maxLen ∧ z0.length = cap0 ∧ (∀ i, i < z0.length → w.cell? (x.add i) = some (.int .i64 (z0.getD i 0))) ∧ ∀ n ∈ z0, (Lit.int .i64 n).wf = true) (y0 : len0 * 8 ≤ 140737488351232) (w1 : (a1 = none ∧ len1 = 0 ∧ cap1 = 0 ∧ z1 = []) ∨ ∃ x, a1 = some x ∧ len1 ≤ cap1 ∧ cap1 ≤ maxLen ∧ z1.length = cap1 ∧ (∀ i, i < z1.length → w.cell? (x.add i) = some (.int .i64 (z1.getD i 0))) ∧ ∀ n ∈ z1, (Lit.int .i64 n).wf = true) (y1 : len1 * 8 ≤ 140737488351232) (w2 : (a2 = none ∧ len2 = 0 ∧ cap2 = 0 ∧ z2 = []) ∨ ∃ x, a2 = some x ∧ len2 ≤ cap2 ∧ cap2 ≤ maxLen ∧ z2.length = cap2 ∧ (∀ i, i < z2.length → w.cell? (x.add i) = some (.int .i64 (z2.getD i 0))) ∧ ∀ n ∈ z2, (Lit.int .i64 n).wf = true) (y2 : len2 * 8 ≤ 140737488351232) :
    Calls Try.prog 7 #[.slice a0 len0 cap0, .slice a1 len1 cap1, .slice a2 len2 cap2] w fun e w' => e = .returned (.bool true) ∧ Below w.heap.size w w' := by
  obtain ⟨l0, rfl, hr0, hm0, hw0, hc0⟩ := ReadsInt.ofRowC w0
  obtain ⟨l1, rfl, hr1, hm1, hw1, hc1⟩ := ReadsInt.ofRowC w1
  obtain ⟨l2, rfl, hr2, hm2, hw2, hc2⟩ := ReadsInt.ofRowC w2
  obtain ⟨k, h⟩ := P l0 l1 l2 hm0 y0 hw0 hm1 y1 hw1 hm2 y2 hw2
  refine (concordatlaw07_Diff3Turned.calls k _ _ l0 _ _ l1 _ _ l2 true w (Kd.C_of_reads (d := (0 : Int)) (h1 := fun _ => rfl) hr0) hc0 (Kd.C_of_reads (d := (0 : Int)) (h1 := fun _ => rfl) hr1) hc1 (Kd.C_of_reads (d := (0 : Int)) (h1 := fun _ => rfl) hr2) hc2 h).mono ?_
  rintro e w' ⟨rfl, hd⟩
  exact ⟨rfl, hd⟩

end Go.Proofs.Yteafndooaokagaa.PDiff
