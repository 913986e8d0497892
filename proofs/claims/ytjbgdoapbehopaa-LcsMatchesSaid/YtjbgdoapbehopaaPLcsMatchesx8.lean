/- Laid by a program of this session out of the seat's translation. -/
import Derived.Test.YtjbgdoapbehopaaPLcsMatchesx0
import Derived.Test.YtjbgdoapbehopaaPLcsMatchesx1
import Derived.Test.YtjbgdoapbehopaaPLcsMatchesx4
import Derived.Test.YtjbgdoapbehopaaPLcsMatchesx5
import Derived.Test.YtjbgdoapbehopaaPLcsMatchesx7
namespace Go.Proofs.Ytjbgdoapbehopaa.PLcsMatches
open Go.RowKit Go.Proofs.YtjbgdoapbehopaaW.PrintWords Go.Proofs.YtjbgdoapbehopaaW.PrintLast Go.Proofs.YtjbgdoapbehopaaW.PrintMore
attribute [local go_sem] max2_int min2_int max_two min_two max_three min_three max_four min_four   -- for this text's walks alone
set_option linter.unusedVariables false
set_option linter.unusedSimpArgs false

/-! ### concordatref05_Length: function 13 -/
def concordatref05_Length.l0 : Nat → List Int → Int → Int → Option (Int)
  | 0, _, _, _ => none
  | k + 1, x5, x6, x7 => if x7 < (x5.length : Int) then (if 0 ≤ x7 then (if (rd x5 x7) ≥ 0 then (concordatref05_Length.l0 k x5 (wrap64 (x6 + 1)) (wrap64 (x7 + 1))) else (concordatref05_Length.l0 k x5 x6 (wrap64 (x7 + 1)))) else (none)) else (some x6)
def concordatref05_Length.f (k : Nat) (l0 : List Int) (l1 : List Int) : Option (Int) := (concordatref05_Match.f k l0 l1).bind fun t271 => (concordatref05_Length.l0 k t271 0 0)
theorem concordatref05_Length.mono_l : ∀ k, (∀ y0 y1 y2, LeO (concordatref05_Length.l0 k y0 y1 y2) (concordatref05_Length.l0 (k + 1) y0 y1 y2))
  | 0 => fun _ _ _ r h => by simp [concordatref05_Length.l0] at h
  | k + 1 => by
    have ih0 := concordatref05_Length.mono_l k
    · intro y0 y1 y2
      unfold concordatref05_Length.l0
      repeat' first
      | (with_reducible exact ih0 _ _ _)
      | (with_reducible exact concordatref05_Match.mono _ _ _)
      | (with_reducible exact LeO.refl _)
      | (with_reducible exact LeO.none _)
      | (with_reducible refine LeO.ite ?_ ?_)
      | (with_reducible refine LeO.bind ?_ (fun _ => ?_))
      | exact ih0 _ _ _
      | exact concordatref05_Match.mono _ _ _
      | exact LeO.none _
      | refine LeO.ite ?_ ?_
      | refine LeO.bind ?_ (fun _ => ?_)
theorem concordatref05_Length.mono : ∀ a0 a1 k, LeO (concordatref05_Length.f k a0 a1) (concordatref05_Length.f (k + 1) a0 a1) := by
  intro a0 a1 k
  have ih0 := concordatref05_Length.mono_l k
  unfold concordatref05_Length.f
  repeat' first
      | (with_reducible exact ih0 _ _ _)
      | (with_reducible exact concordatref05_Match.mono _ _ _)
      | (with_reducible exact LeO.refl _)
      | (with_reducible exact LeO.none _)
      | (with_reducible refine LeO.ite ?_ ?_)
      | (with_reducible refine LeO.bind ?_ (fun _ => ?_))
      | exact ih0 _ _ _
      | exact concordatref05_Match.mono _ _ _
      | exact LeO.none _
      | refine LeO.ite ?_ ?_
      | refine LeO.bind ?_ (fun _ => ?_)
set_option maxHeartbeats 8000000 in
set_option maxRecDepth 100000 in
theorem concordatref05_Length.calls (k : Nat) (A0 : Option Addr) (c0 : Nat) (l0 : List Int) (A1 : Option Addr) (c1 : Nat) (l1 : List Int) (r : Int) (w : World) (hr0 : Kd.C (Kd.int .i64) w A0 l0.length l0) (hc0 : l0.length ≤ c0) (hr1 : Kd.C (Kd.int .i64) w A1 l1.length l1) (hc1 : l1.length ≤ c1) (h : concordatref05_Length.f k l0 l1 = some r) :
    Calls Try.prog 13 #[.slice A0 l0.length c0, .slice A1 l1.length c1] w fun e w' => e = .returned (.int .i64 r) ∧ Below w.heap.size w w' := by
  have HR0 := Aside0.mk hr0
  have HC0 := Aside0.mk hc0
  clear hr0 hc0
  have HR1 := Aside0.mk hr1
  have HC1 := Aside0.mk hc1
  clear hr1 hc1
  have HB := Aside0.mk (Below.refl w.heap.size w)
  have H : ((concordatref05_Match.f k l0 l1).bind fun t271 => (concordatref05_Length.l0 k t271 0 0)) = some r := h
  clear h
  replace H := Option.bind_eq_some_iff.mp H
  obtain ⟨t271, A30, H⟩ := H
  replace H : (concordatref05_Length.l0 k t271 0 0) = some r := H
  have A3 := Aside0.mk A30
  clear A30
  have H' := Aside0.mk H
  clear H
  go_enter Try.func13, Try.ntmps13
  go_wp2_with (first | ((with_reducible refine gate_callee (f := 11) rfl ?_); refine goesL_ (some 10) rfl rfl Try.func11 (by kernel_rfl) rfl #[.slice A0 l0.length c0, .slice A1 l1.length c1] rfl (by (try simp only [List.map_toArray, List.map_cons, List.map_nil]); first | done | rfl | (simp only [List.length_drop, List.length_take]; rfl)) ?_; (with_reducible refine (concordatref05_Match.calls k _ _ l0 _ _ l1 t271 _ ?side1 ?side2 ?side3 ?side4 A3.out).mono ?_); (case side1 => repeat (first | exact HR0.out | (with_reducible refine Kd.C_alloc ?_ _) | (with_reducible refine Kd.C_drewN ?_ _) | (with_reducible refine Kd.C_drew ?_))); (case side2 => exact HC0.out); (case side3 => repeat (first | exact HR1.out | (with_reducible refine Kd.C_alloc ?_ _) | (with_reducible refine Kd.C_drewN ?_ _) | (with_reducible refine Kd.C_drew ?_))); (case side4 => exact HC1.out); rintro e w4 ⟨v272, rfl, ho0, hb⟩; refine ⟨_, rfl, ?_⟩; have n0_ := Aside0.mk (Kd.R_lower ho0 (below_size (by repeat (first | (with_reducible first | exact HB.out | apply below_alloc | apply pw_below_drewN | apply below_drew1) | exact HB.out)))); have n1_ := Aside0.mk (below_step (by repeat (first | (with_reducible first | exact HB.out | apply below_alloc | apply pw_below_drewN | apply below_drew1) | exact HB.out)) hb); clear HB; have HO273 := n0_; have HB := n1_; clear n0_ n1_; (try clear hb); (try clear hb2); (try clear hk); (try clear hi); (try clear ho0)))
  go_loopg [6, 7] k (fun kq v6 v7 w' => ∃ (x6_1 : Int) (x7_1 : Int), v6 = .int .i64 x6_1 ∧ v7 = .int .i64 x7_1 ∧ Aside0 (concordatref05_Length.l0 kq t271 x6_1 x7_1 = some r) ∧ Aside0 (kq ≤ k) ∧ Aside0 (Kd.R (Kd.int .i64) 3 w' w.heap.size (fun _ => True) v272 t271) ∧ Aside0 (Below w.heap.size w w'))
  case atStart => exact ⟨(0), (0), (by first | rfl | (simp; done) | (simp [*]; done)), (by first | rfl | (simp; done) | (simp [*]; done)), H', ⟨Nat.le_refl _⟩, ⟨by (with_reducible repeat (first | apply Kd.R_alloc | apply Kd.R_drewN | apply Kd.R_drew)); exact HO273.out⟩, ⟨by repeat (first | (with_reducible first | exact HB.out | apply below_alloc | apply pw_below_drewN | apply below_drew1) | exact HB.out)⟩⟩
  case round =>
    clear H'
    try clear c1
    try clear p2
    obtain ⟨x6_1, x7_1, rfl, rfl, HA, HK1, HO_5, HB⟩ := hrel
    cases gk with
    | zero => exact absurd HA.out (by simp [concordatref05_Length.l0])
    | succ k1 =>
      have H := HA.out
      clear HA
      simp only [concordatref05_Length.l0] at H
      by_cases c5 : x7_1 < (t271.length : Int)
      · rw [if_pos c5] at H
        have c5b0 : decide (x7_1 < (t271.length : Int)) = true := decide_eq_true c5
        clear c5
        by_cases c6 : 0 ≤ x7_1
        · rw [if_pos c6] at H
          have c6b0 : decide (0 ≤ x7_1) = true := decide_eq_true c6
          clear c6
          by_cases c7 : (rd t271 x7_1) ≥ 0
          · rw [if_pos c7] at H
            have c7b0 : decide (0 ≤ (rd t271 x7_1)) = true := decide_eq_true c7
            clear c7
            have H' := Aside0.mk H
            clear H
            obtain ⟨Ao8, co8, eo8⟩ := Kd.R_slice HO_5.out
            subst eo8
            have p274 : 0 ≤ (x7_1 : Int) := of_decide_eq_true (by first | (with_reducible assumption) | assumption)
            have q274 : x7_1 < (t271.length : Int) := of_decide_eq_true (by first | (with_reducible assumption) | assumption)
            obtain ⟨ad274, e274, hx274_0⟩ := Kd.at_int (Kd.R_reads' HO_5.out).2.2 x7_1 p274 q274
            cases e274
            replace p274 := eq_true p274
            replace q274 := eq_true q274
            go_wp2
            go_roundg k1
            case measure => have := HK1.out; omega
            case rel => exact ⟨(wrap64 (x6_1 + 1)), (wrap64 (x7_1 + 1)), (by first | rfl | (simp; done) | (simp [*]; done)), (by first | rfl | (simp; done) | (simp [*]; done)), H', ⟨by have := HK1.out; omega⟩, ⟨by (with_reducible repeat (first | apply Kd.R_alloc | apply Kd.R_drewN | apply Kd.R_drew)); exact HO_5.out⟩, ⟨by repeat (first | (with_reducible first | exact HB.out | apply below_alloc | apply pw_below_drewN | apply below_drew1) | exact HB.out)⟩⟩
          · rw [if_neg c7] at H
            have c7b0 : decide (0 ≤ (rd t271 x7_1)) = false := decide_eq_false c7
            clear c7
            have H' := Aside0.mk H
            clear H
            obtain ⟨Ao9, co9, eo9⟩ := Kd.R_slice HO_5.out
            subst eo9
            have p274 : 0 ≤ (x7_1 : Int) := of_decide_eq_true (by first | (with_reducible assumption) | assumption)
            have q274 : x7_1 < (t271.length : Int) := of_decide_eq_true (by first | (with_reducible assumption) | assumption)
            obtain ⟨ad274, e274, hx274_0⟩ := Kd.at_int (Kd.R_reads' HO_5.out).2.2 x7_1 p274 q274
            cases e274
            replace p274 := eq_true p274
            replace q274 := eq_true q274
            go_wp2
            go_roundg k1
            case measure => have := HK1.out; omega
            case rel => exact ⟨(x6_1), (wrap64 (x7_1 + 1)), (by first | rfl | (simp; done) | (simp [*]; done)), (by first | rfl | (simp; done) | (simp [*]; done)), H', ⟨by have := HK1.out; omega⟩, ⟨by (with_reducible repeat (first | apply Kd.R_alloc | apply Kd.R_drewN | apply Kd.R_drew)); exact HO_5.out⟩, ⟨by repeat (first | (with_reducible first | exact HB.out | apply below_alloc | apply pw_below_drewN | apply below_drew1) | exact HB.out)⟩⟩
        · rw [if_neg c6] at H
          exact absurd H (by simp)
      · rw [if_neg c5] at H
        have c5b0 : decide (x7_1 < (t271.length : Int)) = false := decide_eq_false c5
        clear c5
        obtain rfl := Option.some.inj H
        obtain ⟨Ao10, co10, eo10⟩ := Kd.R_slice HO_5.out
        subst eo10
        go_wp2
        go_ret
        exact ⟨by first | rfl | (simp [errW_none, errW_some] <;> rfl) | (simp [*, errW_none, errW_some] <;> rfl), by repeat (first | (with_reducible first | exact HB.out | apply below_alloc | apply pw_below_drewN | apply below_drew1) | exact HB.out)⟩

/-! ### concordatref05_Percent: function 15 -/
def concordatref05_Percent.f (k : Nat) (l0 : List Int) (l1 : List Int) : Option (Int) := if (wrap64 ((l0.length : Int) + (l1.length : Int))) = 0 then (some 100) else ((concordatref05_Length.f k l0 l1).bind fun t275 => (some (wrap64 (Int.tdiv (wrap64 (200 * t275)) (wrap64 ((l0.length : Int) + (l1.length : Int)))))))
theorem concordatref05_Percent.mono : ∀ a0 a1 k, LeO (concordatref05_Percent.f k a0 a1) (concordatref05_Percent.f (k + 1) a0 a1) := by
  intro a0 a1 k
  unfold concordatref05_Percent.f
  repeat' first
      | (with_reducible exact concordatref05_Length.mono _ _ _)
      | (with_reducible exact LeO.refl _)
      | (with_reducible exact LeO.none _)
      | (with_reducible refine LeO.ite ?_ ?_)
      | (with_reducible refine LeO.bind ?_ (fun _ => ?_))
      | exact concordatref05_Length.mono _ _ _
      | exact LeO.none _
      | refine LeO.ite ?_ ?_
      | refine LeO.bind ?_ (fun _ => ?_)
set_option maxHeartbeats 8000000 in
set_option maxRecDepth 100000 in
theorem concordatref05_Percent.calls (k : Nat) (A0 : Option Addr) (c0 : Nat) (l0 : List Int) (A1 : Option Addr) (c1 : Nat) (l1 : List Int) (r : Int) (w : World) (hr0 : Kd.C (Kd.int .i64) w A0 l0.length l0) (hc0 : l0.length ≤ c0) (hr1 : Kd.C (Kd.int .i64) w A1 l1.length l1) (hc1 : l1.length ≤ c1) (h : concordatref05_Percent.f k l0 l1 = some r) :
    Calls Try.prog 15 #[.slice A0 l0.length c0, .slice A1 l1.length c1] w fun e w' => e = .returned (.int .i64 r) ∧ Below w.heap.size w w' := by
  have HR0 := Aside0.mk hr0
  have HC0 := Aside0.mk hc0
  clear hr0 hc0
  have HR1 := Aside0.mk hr1
  have HC1 := Aside0.mk hc1
  clear hr1 hc1
  have HB := Aside0.mk (Below.refl w.heap.size w)
  have H : (if (wrap64 ((l0.length : Int) + (l1.length : Int))) = 0 then (some 100) else ((concordatref05_Length.f k l0 l1).bind fun t275 => (some (wrap64 (Int.tdiv (wrap64 (200 * t275)) (wrap64 ((l0.length : Int) + (l1.length : Int)))))))) = some r := h
  clear h
  by_cases c3 : (wrap64 ((l0.length : Int) + (l1.length : Int))) = 0
  · rw [if_pos c3] at H
    have c3b0 : ((wrap64 ((l0.length : Int) + (l1.length : Int))) == 0) = true := beq_iff_eq.mpr c3
    have c3b1 : ((wrap64 ((l0.length : Int) + (l1.length : Int))) != 0) = false := bne_eq_false_iff_eq.mpr c3
    clear c3
    obtain rfl := Option.some.inj H
    go_enter Try.func15, Try.ntmps15
    go_wp2
    go_ret
    exact ⟨by first | rfl | (simp [errW_none, errW_some] <;> rfl) | (simp [*, errW_none, errW_some] <;> rfl), by repeat (first | (with_reducible first | exact HB.out | apply below_alloc | apply pw_below_drewN | apply below_drew1) | exact HB.out)⟩
  · rw [if_neg c3] at H
    have c3b0 : ((wrap64 ((l0.length : Int) + (l1.length : Int))) == 0) = false := beq_eq_false_iff_ne.mpr c3
    have c3b1 : ((wrap64 ((l0.length : Int) + (l1.length : Int))) != 0) = true := bne_iff_ne.mpr c3
    replace H := Option.bind_eq_some_iff.mp H
    obtain ⟨t275, A40, H⟩ := H
    replace H : (some (wrap64 (Int.tdiv (wrap64 (200 * t275)) (wrap64 ((l0.length : Int) + (l1.length : Int)))))) = some r := H
    have A4 := Aside0.mk A40
    clear A40
    obtain rfl := Option.some.inj H
    go_enter Try.func15, Try.ntmps15
    go_wp2_with (first | ((with_reducible refine gate_callee (f := 13) rfl ?_); refine goesL_ (some 13) rfl rfl Try.func13 (by kernel_rfl) rfl #[.slice A0 l0.length c0, .slice A1 l1.length c1] rfl (by (try simp only [List.map_toArray, List.map_cons, List.map_nil]); first | done | rfl | (simp only [List.length_drop, List.length_take]; rfl)) ?_; (with_reducible refine (concordatref05_Length.calls k _ _ l0 _ _ l1 t275 _ ?side1 ?side2 ?side3 ?side4 A4.out).mono ?_); (case side1 => repeat (first | exact HR0.out | (with_reducible refine Kd.C_alloc ?_ _) | (with_reducible refine Kd.C_drewN ?_ _) | (with_reducible refine Kd.C_drew ?_))); (case side2 => exact HC0.out); (case side3 => repeat (first | exact HR1.out | (with_reducible refine Kd.C_alloc ?_ _) | (with_reducible refine Kd.C_drewN ?_ _) | (with_reducible refine Kd.C_drew ?_))); (case side4 => exact HC1.out); rintro e w5 ⟨rfl, hb⟩; refine ⟨_, rfl, ?_⟩; have n0_ := Aside0.mk (below_step (by repeat (first | (with_reducible first | exact HB.out | apply below_alloc | apply pw_below_drewN | apply below_drew1) | exact HB.out)) hb); clear HB; have HB := n0_; clear n0_; (try clear hb); (try clear hb2); (try clear hk); (try clear hi)))
    go_ret
    exact ⟨by first | rfl | (simp [errW_none, errW_some] <;> rfl) | (simp [*, errW_none, errW_some] <;> rfl), by repeat (first | (with_reducible first | exact HB.out | apply below_alloc | apply pw_below_drewN | apply below_drew1) | exact HB.out)⟩

/-! ### concordatlaw05_LcsMatches: function 3 -/
def concordatlaw05_LcsMatches.j0 : Nat → List Int → List Int → Bool → Option (Bool)
  | 0, _, _, _ => none
  | k + 1, x0, x1, x36 => if x36 = true then (some true) else ((lcs_Match.f k x0 x1).bind fun t277 => ((concordatref05_Match.f k x0 x1).bind fun t280 => ((concordatref05_Same.f k t277 t280).bind fun t283 => (if t283 = true then ((lcs_Length.f k x0 x1).bind fun t284 => ((concordatref05_Length.f k x0 x1).bind fun t285 => (if t284 = t285 then ((lcs_Percent.f k x0 x1).bind fun t286 => ((concordatref05_Percent.f k x0 x1).bind fun t287 => (some (t286 == t287)))) else (none)))) else (none)))))
def concordatlaw05_LcsMatches.f (k : Nat) (l0 : List Int) (l1 : List Int) : Option (Bool) := (concordatlaw05_awake.f k).bind fun t276 => (if t276 = true then (if (l0.length : Int) > 2500 then (concordatlaw05_LcsMatches.j0 k l0 l1 true) else (if (l1.length : Int) > 2500 then (concordatlaw05_LcsMatches.j0 k l0 l1 true) else (if (l0.length : Int) > 300 then (if (l0.length : Int) < 2000 then (concordatlaw05_LcsMatches.j0 k l0 l1 true) else (if (l1.length : Int) > 300 then (concordatlaw05_LcsMatches.j0 k l0 l1 (decide ((l1.length : Int) < 2000))) else (concordatlaw05_LcsMatches.j0 k l0 l1 false))) else (if (l1.length : Int) > 300 then (concordatlaw05_LcsMatches.j0 k l0 l1 (decide ((l1.length : Int) < 2000))) else (concordatlaw05_LcsMatches.j0 k l0 l1 false))))) else (none))
theorem concordatlaw05_LcsMatches.mono_l : ∀ k, (∀ y0 y1 y2, LeO (concordatlaw05_LcsMatches.j0 k y0 y1 y2) (concordatlaw05_LcsMatches.j0 (k + 1) y0 y1 y2))
  | 0 => fun _ _ _ r h => by simp [concordatlaw05_LcsMatches.j0] at h
  | k + 1 => by
    have ih0 := concordatlaw05_LcsMatches.mono_l k
    · intro y0 y1 y2
      unfold concordatlaw05_LcsMatches.j0
      repeat' first
      | (with_reducible exact ih0 _ _ _)
      | (with_reducible exact concordatlaw05_awake.mono _)
      | (with_reducible exact concordatref05_Length.mono _ _ _)
      | (with_reducible exact concordatref05_Match.mono _ _ _)
      | (with_reducible exact concordatref05_Percent.mono _ _ _)
      | (with_reducible exact concordatref05_Same.mono _ _ _)
      | (with_reducible exact lcs_Length.mono _ _ _)
      | (with_reducible exact lcs_Match.mono _ _ _)
      | (with_reducible exact lcs_Percent.mono _ _ _)
      | (with_reducible exact LeO.refl _)
      | (with_reducible exact LeO.none _)
      | (with_reducible refine LeO.ite ?_ ?_)
      | (with_reducible refine LeO.bind ?_ (fun _ => ?_))
      | exact ih0 _ _ _
      | exact concordatlaw05_awake.mono _
      | exact concordatref05_Length.mono _ _ _
      | exact concordatref05_Match.mono _ _ _
      | exact concordatref05_Percent.mono _ _ _
      | exact concordatref05_Same.mono _ _ _
      | exact lcs_Length.mono _ _ _
      | exact lcs_Match.mono _ _ _
      | exact lcs_Percent.mono _ _ _
      | exact LeO.none _
      | refine LeO.ite ?_ ?_
      | refine LeO.bind ?_ (fun _ => ?_)
theorem concordatlaw05_LcsMatches.mono : ∀ a0 a1 k, LeO (concordatlaw05_LcsMatches.f k a0 a1) (concordatlaw05_LcsMatches.f (k + 1) a0 a1) := by
  intro a0 a1 k
  have ih0 := concordatlaw05_LcsMatches.mono_l k
  unfold concordatlaw05_LcsMatches.f
  repeat' first
      | (with_reducible exact ih0 _ _ _)
      | (with_reducible exact concordatlaw05_awake.mono _)
      | (with_reducible exact concordatref05_Length.mono _ _ _)
      | (with_reducible exact concordatref05_Match.mono _ _ _)
      | (with_reducible exact concordatref05_Percent.mono _ _ _)
      | (with_reducible exact concordatref05_Same.mono _ _ _)
      | (with_reducible exact lcs_Length.mono _ _ _)
      | (with_reducible exact lcs_Match.mono _ _ _)
      | (with_reducible exact lcs_Percent.mono _ _ _)
      | (with_reducible exact LeO.refl _)
      | (with_reducible exact LeO.none _)
      | (with_reducible refine LeO.ite ?_ ?_)
      | (with_reducible refine LeO.bind ?_ (fun _ => ?_))
      | exact ih0 _ _ _
      | exact concordatlaw05_awake.mono _
      | exact concordatref05_Length.mono _ _ _
      | exact concordatref05_Match.mono _ _ _
      | exact concordatref05_Percent.mono _ _ _
      | exact concordatref05_Same.mono _ _ _
      | exact lcs_Length.mono _ _ _
      | exact lcs_Match.mono _ _ _
      | exact lcs_Percent.mono _ _ _
      | exact LeO.none _
      | refine LeO.ite ?_ ?_
      | refine LeO.bind ?_ (fun _ => ?_)
set_option maxHeartbeats 8000000 in
set_option maxRecDepth 100000 in
theorem concordatlaw05_LcsMatches.calls (k : Nat) (A0 : Option Addr) (c0 : Nat) (l0 : List Int) (A1 : Option Addr) (c1 : Nat) (l1 : List Int) (r : Bool) (w : World) (hr0 : Kd.C (Kd.int .i64) w A0 l0.length l0) (hc0 : l0.length ≤ c0) (hr1 : Kd.C (Kd.int .i64) w A1 l1.length l1) (hc1 : l1.length ≤ c1) (h : concordatlaw05_LcsMatches.f k l0 l1 = some r) :
    Calls Try.prog 3 #[.slice A0 l0.length c0, .slice A1 l1.length c1] w fun e w' => e = .returned (.bool r) ∧ Below w.heap.size w w' := by
  have HR0 := Aside0.mk hr0
  have HC0 := Aside0.mk hc0
  clear hr0 hc0
  have HR1 := Aside0.mk hr1
  have HC1 := Aside0.mk hc1
  clear hr1 hc1
  have HB := Aside0.mk (Below.refl w.heap.size w)
  have H : ((concordatlaw05_awake.f k).bind fun t276 => (if t276 = true then (if (l0.length : Int) > 2500 then (concordatlaw05_LcsMatches.j0 k l0 l1 true) else (if (l1.length : Int) > 2500 then (concordatlaw05_LcsMatches.j0 k l0 l1 true) else (if (l0.length : Int) > 300 then (if (l0.length : Int) < 2000 then (concordatlaw05_LcsMatches.j0 k l0 l1 true) else (if (l1.length : Int) > 300 then (concordatlaw05_LcsMatches.j0 k l0 l1 (decide ((l1.length : Int) < 2000))) else (concordatlaw05_LcsMatches.j0 k l0 l1 false))) else (if (l1.length : Int) > 300 then (concordatlaw05_LcsMatches.j0 k l0 l1 (decide ((l1.length : Int) < 2000))) else (concordatlaw05_LcsMatches.j0 k l0 l1 false))))) else (none))) = some r := h
  clear h
  replace H := Option.bind_eq_some_iff.mp H
  obtain ⟨t276, A30, H⟩ := H
  replace H : (if t276 = true then (if (l0.length : Int) > 2500 then (concordatlaw05_LcsMatches.j0 k l0 l1 true) else (if (l1.length : Int) > 2500 then (concordatlaw05_LcsMatches.j0 k l0 l1 true) else (if (l0.length : Int) > 300 then (if (l0.length : Int) < 2000 then (concordatlaw05_LcsMatches.j0 k l0 l1 true) else (if (l1.length : Int) > 300 then (concordatlaw05_LcsMatches.j0 k l0 l1 (decide ((l1.length : Int) < 2000))) else (concordatlaw05_LcsMatches.j0 k l0 l1 false))) else (if (l1.length : Int) > 300 then (concordatlaw05_LcsMatches.j0 k l0 l1 (decide ((l1.length : Int) < 2000))) else (concordatlaw05_LcsMatches.j0 k l0 l1 false))))) else (none)) = some r := H
  have A3 := Aside0.mk A30
  clear A30
  by_cases c4 : t276 = true
  · subst c4
    have H1 : (if (l0.length : Int) > 2500 then (concordatlaw05_LcsMatches.j0 k l0 l1 true) else (if (l1.length : Int) > 2500 then (concordatlaw05_LcsMatches.j0 k l0 l1 true) else (if (l0.length : Int) > 300 then (if (l0.length : Int) < 2000 then (concordatlaw05_LcsMatches.j0 k l0 l1 true) else (if (l1.length : Int) > 300 then (concordatlaw05_LcsMatches.j0 k l0 l1 (decide ((l1.length : Int) < 2000))) else (concordatlaw05_LcsMatches.j0 k l0 l1 false))) else (if (l1.length : Int) > 300 then (concordatlaw05_LcsMatches.j0 k l0 l1 (decide ((l1.length : Int) < 2000))) else (concordatlaw05_LcsMatches.j0 k l0 l1 false))))) = some r := by rw [if_pos rfl] at H; exact H
    clear H
    have H := H1
    clear H1
    have HC5 := Aside0.mk H
    clear H
    go_enter Try.func3, Try.ntmps3
    go_upto_region 4 with (first | ((with_reducible refine gate_callee (f := 8) rfl ?_); refine goesL_ (some 6) rfl rfl Try.func8 (by kernel_rfl) rfl #[] rfl (by (try simp only [List.map_toArray, List.map_cons, List.map_nil]); first | done | rfl | (simp only [List.length_drop, List.length_take]; rfl)) ?_; (with_reducible refine (concordatlaw05_awake.calls k  true _ A3.out).mono ?_); rintro e w6 ⟨rfl, hb⟩; refine ⟨_, rfl, ?_⟩; have n0_ := Aside0.mk (below_step (by repeat (first | (with_reducible first | exact HB.out | apply below_alloc | apply pw_below_drewN | apply below_drew1) | exact HB.out)) hb); clear HB; have HB := n0_; clear n0_; (try clear hb); (try clear hb2); (try clear hk); (try clear hi)))
    (try simp only [Act.put, List.setIfInBounds_toArray, List.set_cons_zero, List.set_cons_succ])
    go_cut [36] (fun v36 wc => ∃ (kq : Nat) (x36_4 : Bool), v36 = .bool x36_4 ∧ Aside0 (concordatlaw05_LcsMatches.j0 kq l0 l1 x36_4 = some r) ∧ Aside0 (kq ≤ k) ∧ Aside0 (Below w.heap.size w wc))
    case first =>
      have H := HC5.out
      clear HC5
      by_cases c7 : (l0.length : Int) > 2500
      · rw [if_pos c7] at H
        have c7b0 : decide (2500 < (l0.length : Int)) = true := decide_eq_true c7
        have c7b1 : decide (2500 < l0.length) = true := decide_eq_true (by omega)
        clear c7
        (first | rw [c7b0] | (simp only [i64_w, i32_w]; rw [c7b0]) | skip)
        have H' := Aside0.mk H
        clear H
        go_wp2
        go_meet
        case rel => exact ⟨_, (true), (by first | rfl | (simp; done) | (simp [*]; done)), H', ⟨by first | omega | exact Nat.le_refl _⟩, ⟨by repeat (first | (with_reducible first | exact HB.out | apply below_alloc | apply pw_below_drewN | apply below_drew1) | exact HB.out)⟩⟩
      · rw [if_neg c7] at H
        have c7b0 : decide (2500 < (l0.length : Int)) = false := decide_eq_false c7
        have c7b1 : decide (2500 < l0.length) = false := decide_eq_false (by omega)
        clear c7
        (first | rw [c7b0] | (simp only [i64_w, i32_w]; rw [c7b0]) | skip)
        by_cases c8 : (l1.length : Int) > 2500
        · rw [if_pos c8] at H
          have c8b0 : decide (2500 < (l1.length : Int)) = true := decide_eq_true c8
          have c8b1 : decide (2500 < l1.length) = true := decide_eq_true (by omega)
          clear c8
          have H' := Aside0.mk H
          clear H
          go_wp2
          go_meet
          case rel => exact ⟨_, (true), (by first | rfl | (simp; done) | (simp [*]; done)), H', ⟨by first | omega | exact Nat.le_refl _⟩, ⟨by repeat (first | (with_reducible first | exact HB.out | apply below_alloc | apply pw_below_drewN | apply below_drew1) | exact HB.out)⟩⟩
        · rw [if_neg c8] at H
          have c8b0 : decide (2500 < (l1.length : Int)) = false := decide_eq_false c8
          have c8b1 : decide (2500 < l1.length) = false := decide_eq_false (by omega)
          clear c8
          by_cases c9 : (l0.length : Int) > 300
          · rw [if_pos c9] at H
            have c9b0 : decide (300 < (l0.length : Int)) = true := decide_eq_true c9
            have c9b1 : decide (300 < l0.length) = true := decide_eq_true (by omega)
            clear c9
            by_cases c10 : (l0.length : Int) < 2000
            · rw [if_pos c10] at H
              have c10b0 : decide ((l0.length : Int) < 2000) = true := decide_eq_true c10
              have c10b1 : decide (l0.length < 2000) = true := decide_eq_true (by omega)
              clear c10
              have H' := Aside0.mk H
              clear H
              go_wp2
              go_meet
              case rel => exact ⟨_, (true), (by first | rfl | (simp; done) | (simp [*]; done)), H', ⟨by first | omega | exact Nat.le_refl _⟩, ⟨by repeat (first | (with_reducible first | exact HB.out | apply below_alloc | apply pw_below_drewN | apply below_drew1) | exact HB.out)⟩⟩
            · rw [if_neg c10] at H
              have c10b0 : decide ((l0.length : Int) < 2000) = false := decide_eq_false c10
              have c10b1 : decide (l0.length < 2000) = false := decide_eq_false (by omega)
              clear c10
              by_cases c11 : (l1.length : Int) > 300
              · rw [if_pos c11] at H
                have c11b0 : decide (300 < (l1.length : Int)) = true := decide_eq_true c11
                have c11b1 : decide (300 < l1.length) = true := decide_eq_true (by omega)
                clear c11
                have H' := Aside0.mk H
                clear H
                go_wp2
                go_meet
                case rel => exact ⟨_, (decide ((l1.length : Int) < 2000)), (by first | rfl | (simp; done) | (simp [*]; done)), H', ⟨by first | omega | exact Nat.le_refl _⟩, ⟨by repeat (first | (with_reducible first | exact HB.out | apply below_alloc | apply pw_below_drewN | apply below_drew1) | exact HB.out)⟩⟩
              · rw [if_neg c11] at H
                have c11b0 : decide (300 < (l1.length : Int)) = false := decide_eq_false c11
                have c11b1 : decide (300 < l1.length) = false := decide_eq_false (by omega)
                clear c11
                have H' := Aside0.mk H
                clear H
                go_wp2
                go_meet
                case rel => exact ⟨_, (false), (by first | rfl | (simp; done) | (simp [*]; done)), H', ⟨by first | omega | exact Nat.le_refl _⟩, ⟨by repeat (first | (with_reducible first | exact HB.out | apply below_alloc | apply pw_below_drewN | apply below_drew1) | exact HB.out)⟩⟩
          · rw [if_neg c9] at H
            have c9b0 : decide (300 < (l0.length : Int)) = false := decide_eq_false c9
            have c9b1 : decide (300 < l0.length) = false := decide_eq_false (by omega)
            clear c9
            by_cases c12 : (l1.length : Int) > 300
            · rw [if_pos c12] at H
              have c12b0 : decide (300 < (l1.length : Int)) = true := decide_eq_true c12
              have c12b1 : decide (300 < l1.length) = true := decide_eq_true (by omega)
              clear c12
              have H' := Aside0.mk H
              clear H
              go_wp2
              go_meet
              case rel => exact ⟨_, (decide ((l1.length : Int) < 2000)), (by first | rfl | (simp; done) | (simp [*]; done)), H', ⟨by first | omega | exact Nat.le_refl _⟩, ⟨by repeat (first | (with_reducible first | exact HB.out | apply below_alloc | apply pw_below_drewN | apply below_drew1) | exact HB.out)⟩⟩
            · rw [if_neg c12] at H
              have c12b0 : decide (300 < (l1.length : Int)) = false := decide_eq_false c12
              have c12b1 : decide (300 < l1.length) = false := decide_eq_false (by omega)
              clear c12
              have H' := Aside0.mk H
              clear H
              go_wp2
              go_meet
              case rel => exact ⟨_, (false), (by first | rfl | (simp; done) | (simp [*]; done)), H', ⟨by first | omega | exact Nat.le_refl _⟩, ⟨by repeat (first | (with_reducible first | exact HB.out | apply below_alloc | apply pw_below_drewN | apply below_drew1) | exact HB.out)⟩⟩
    case rest =>
      clear HC5
      try clear c1
      try clear p2
      try clear c3
      try clear c4
      try clear c7
      try clear c7b0
      try clear c7b1
      try clear c8
      try clear c8b0
      try clear c8b1
      try clear c9
      try clear c9b0
      try clear c9b1
      try clear c10
      try clear c10b0
      try clear c10b1
      try clear c11
      try clear c11b0
      try clear c11b1
      try clear c12
      try clear c12b0
      try clear c12b1
      obtain ⟨kq, x36_4, rfl, HA, HJ4, HB⟩ := hcut
      cases kq with
      | zero => exact absurd HA.out (by simp [concordatlaw05_LcsMatches.j0])
      | succ kj4 =>
        have H := HA.out
        clear HA
        simp only [concordatlaw05_LcsMatches.j0] at H
        by_cases c13 : x36_4 = true
        · subst c13
          have H1 : (some true) = some r := by rw [if_pos rfl] at H; exact H
          clear H
          have H := H1
          clear H1
          obtain rfl := Option.some.inj H
          go_wp2
          go_ret
          exact ⟨by first | rfl | (simp [errW_none, errW_some] <;> rfl) | (simp [*, errW_none, errW_some] <;> rfl), by repeat (first | (with_reducible first | exact HB.out | apply below_alloc | apply pw_below_drewN | apply below_drew1) | exact HB.out)⟩
        · replace c13 := Bool.eq_false_iff.mpr c13
          subst c13
          have H1 : ((lcs_Match.f kj4 l0 l1).bind fun t277 => ((concordatref05_Match.f kj4 l0 l1).bind fun t280 => ((concordatref05_Same.f kj4 t277 t280).bind fun t283 => (if t283 = true then ((lcs_Length.f kj4 l0 l1).bind fun t284 => ((concordatref05_Length.f kj4 l0 l1).bind fun t285 => (if t284 = t285 then ((lcs_Percent.f kj4 l0 l1).bind fun t286 => ((concordatref05_Percent.f kj4 l0 l1).bind fun t287 => (some (t286 == t287)))) else (none)))) else (none))))) = some r := by rw [if_neg (show ¬ (false = true) by decide)] at H; exact H
          clear H
          have H := H1
          clear H1
          replace H := Option.bind_eq_some_iff.mp H
          obtain ⟨t277, A140, H⟩ := H
          replace H : ((concordatref05_Match.f kj4 l0 l1).bind fun t280 => ((concordatref05_Same.f kj4 t277 t280).bind fun t283 => (if t283 = true then ((lcs_Length.f kj4 l0 l1).bind fun t284 => ((concordatref05_Length.f kj4 l0 l1).bind fun t285 => (if t284 = t285 then ((lcs_Percent.f kj4 l0 l1).bind fun t286 => ((concordatref05_Percent.f kj4 l0 l1).bind fun t287 => (some (t286 == t287)))) else (none)))) else (none)))) = some r := H
          have A14 := Aside0.mk A140
          clear A140
          replace H := Option.bind_eq_some_iff.mp H
          obtain ⟨t280, A150, H⟩ := H
          replace H : ((concordatref05_Same.f kj4 t277 t280).bind fun t283 => (if t283 = true then ((lcs_Length.f kj4 l0 l1).bind fun t284 => ((concordatref05_Length.f kj4 l0 l1).bind fun t285 => (if t284 = t285 then ((lcs_Percent.f kj4 l0 l1).bind fun t286 => ((concordatref05_Percent.f kj4 l0 l1).bind fun t287 => (some (t286 == t287)))) else (none)))) else (none))) = some r := H
          have A15 := Aside0.mk A150
          clear A150
          replace H := Option.bind_eq_some_iff.mp H
          obtain ⟨t283, A160, H⟩ := H
          replace H : (if t283 = true then ((lcs_Length.f kj4 l0 l1).bind fun t284 => ((concordatref05_Length.f kj4 l0 l1).bind fun t285 => (if t284 = t285 then ((lcs_Percent.f kj4 l0 l1).bind fun t286 => ((concordatref05_Percent.f kj4 l0 l1).bind fun t287 => (some (t286 == t287)))) else (none)))) else (none)) = some r := H
          have A16 := Aside0.mk A160
          clear A160
          by_cases c17 : t283 = true
          · subst c17
            have H1 : ((lcs_Length.f kj4 l0 l1).bind fun t284 => ((concordatref05_Length.f kj4 l0 l1).bind fun t285 => (if t284 = t285 then ((lcs_Percent.f kj4 l0 l1).bind fun t286 => ((concordatref05_Percent.f kj4 l0 l1).bind fun t287 => (some (t286 == t287)))) else (none)))) = some r := by rw [if_pos rfl] at H; exact H
            clear H
            have H := H1
            clear H1
            replace H := Option.bind_eq_some_iff.mp H
            obtain ⟨t284, A180, H⟩ := H
            replace H : ((concordatref05_Length.f kj4 l0 l1).bind fun t285 => (if t284 = t285 then ((lcs_Percent.f kj4 l0 l1).bind fun t286 => ((concordatref05_Percent.f kj4 l0 l1).bind fun t287 => (some (t286 == t287)))) else (none))) = some r := H
            have A18 := Aside0.mk A180
            clear A180
            replace H := Option.bind_eq_some_iff.mp H
            obtain ⟨t285, A190, H⟩ := H
            replace H : (if t284 = t285 then ((lcs_Percent.f kj4 l0 l1).bind fun t286 => ((concordatref05_Percent.f kj4 l0 l1).bind fun t287 => (some (t286 == t287)))) else (none)) = some r := H
            have A19 := Aside0.mk A190
            clear A190
            by_cases c20 : t284 = t285
            · rw [if_pos c20] at H
              have c20b0 : (t284 == t285) = true := beq_iff_eq.mpr c20
              have c20b1 : (t284 != t285) = false := bne_eq_false_iff_eq.mpr c20
              clear c20
              replace H := Option.bind_eq_some_iff.mp H
              obtain ⟨t286, A210, H⟩ := H
              replace H : ((concordatref05_Percent.f kj4 l0 l1).bind fun t287 => (some (t286 == t287))) = some r := H
              have A21 := Aside0.mk A210
              clear A210
              replace H := Option.bind_eq_some_iff.mp H
              obtain ⟨t287, A220, H⟩ := H
              replace H : (some (t286 == t287)) = some r := H
              have A22 := Aside0.mk A220
              clear A220
              obtain rfl := Option.some.inj H
              go_wp2_with (first | ((with_reducible refine gate_callee (f := 10) rfl ?_); refine goesL_ (some 39) rfl rfl Try.func10 (by kernel_rfl) rfl #[.slice A0 l0.length c0, .slice A1 l1.length c1] rfl (by (try simp only [List.map_toArray, List.map_cons, List.map_nil]); first | done | rfl | (simp only [List.length_drop, List.length_take]; rfl)) ?_; (with_reducible refine (lcs_Match.calls kj4 _ _ l0 _ _ l1 t277 _ ?side1 ?side2 ?side3 ?side4 A14.out).mono ?_); (case side1 => repeat (first | exact (Kd.C_below HR0.out HB.out) | (with_reducible refine Kd.C_alloc ?_ _) | (with_reducible refine Kd.C_drewN ?_ _) | (with_reducible refine Kd.C_drew ?_))); (case side2 => exact HC0.out); (case side3 => repeat (first | exact (Kd.C_below HR1.out HB.out) | (with_reducible refine Kd.C_alloc ?_ _) | (with_reducible refine Kd.C_drewN ?_ _) | (with_reducible refine Kd.C_drew ?_))); (case side4 => exact HC1.out); rintro e w23 ⟨v278, rfl, ho0, hb⟩; refine ⟨_, rfl, ?_⟩; have n0_ := Aside0.mk (Kd.R_lower ho0 (below_size (by repeat (first | (with_reducible first | exact HB.out | apply below_alloc | apply pw_below_drewN | apply below_drew1) | exact HB.out)))); have n1_ := Aside0.mk (below_step (by repeat (first | (with_reducible first | exact HB.out | apply below_alloc | apply pw_below_drewN | apply below_drew1) | exact HB.out)) hb); clear HB; have HO279 := n0_; have HB := n1_; clear n0_ n1_; (try clear hb); (try clear hb2); (try clear hk); (try clear hi); (try clear ho0)) | ((with_reducible refine gate_callee (f := 11) rfl ?_); refine goesL_ (some 42) rfl rfl Try.func11 (by kernel_rfl) rfl #[.slice A0 l0.length c0, .slice A1 l1.length c1] rfl (by (try simp only [List.map_toArray, List.map_cons, List.map_nil]); first | done | rfl | (simp only [List.length_drop, List.length_take]; rfl)) ?_; (with_reducible refine (concordatref05_Match.calls kj4 _ _ l0 _ _ l1 t280 _ ?side1 ?side2 ?side3 ?side4 A15.out).mono ?_); (case side1 => repeat (first | exact (Kd.C_below HR0.out HB.out) | (with_reducible refine Kd.C_alloc ?_ _) | (with_reducible refine Kd.C_drewN ?_ _) | (with_reducible refine Kd.C_drew ?_))); (case side2 => exact HC0.out); (case side3 => repeat (first | exact (Kd.C_below HR1.out HB.out) | (with_reducible refine Kd.C_alloc ?_ _) | (with_reducible refine Kd.C_drewN ?_ _) | (with_reducible refine Kd.C_drew ?_))); (case side4 => exact HC1.out); rintro e w24 ⟨v281, rfl, ho0, hb⟩; refine ⟨_, rfl, ?_⟩; have n0_ := Aside0.mk (Kd.R_elder' (by (with_reducible repeat (first | apply Kd.R_alloc | apply Kd.R_drewN | apply Kd.R_drew)); exact HO279.out) (Kd.R_base ho0) hb); have n1_ := Aside0.mk (Kd.R_lower (Kd.R_new' ho0 (Kd.R_lt (by (with_reducible repeat (first | apply Kd.R_alloc | apply Kd.R_drewN | apply Kd.R_drew)); exact HO279.out))) (below_size (by repeat (first | (with_reducible first | exact HB.out | apply below_alloc | apply pw_below_drewN | apply below_drew1) | exact HB.out)))); have n2_ := Aside0.mk (below_step (by repeat (first | (with_reducible first | exact HB.out | apply below_alloc | apply pw_below_drewN | apply below_drew1) | exact HB.out)) hb); clear HO279; clear HB; have HO279 := n0_; have HO282 := n1_; have HB := n2_; clear n0_ n1_ n2_; (try clear hb); (try clear hb2); (try clear hk); (try clear hi); (try clear ho0); obtain ⟨Ao25, co25, eo25⟩ := Kd.R_slice HO279.out; subst eo25; obtain ⟨Ao26, co26, eo26⟩ := Kd.R_slice HO282.out; subst eo26) | ((with_reducible refine gate_callee (f := 9) rfl ?_); refine goesL_ (some 43) rfl rfl Try.func9 (by kernel_rfl) rfl #[.slice Ao25 t277.length co25, .slice Ao26 t280.length co26] rfl (by (try simp only [List.map_toArray, List.map_cons, List.map_nil]); first | done | rfl | (simp only [List.length_drop, List.length_take]; rfl)) ?_; (with_reducible refine (concordatref05_Same.calls kj4 _ _ t277 _ _ t280 true _ ?side1 ?side2 ?side3 ?side4 A16.out).mono ?_); (case side1 => repeat (first | exact (Kd.R_reads' HO279.out).2.2 | (with_reducible refine Kd.C_alloc ?_ _) | (with_reducible refine Kd.C_drewN ?_ _) | (with_reducible refine Kd.C_drew ?_))); (case side2 => exact (Kd.R_reads' HO279.out).2.1); (case side3 => repeat (first | exact (Kd.R_reads' HO282.out).2.2 | (with_reducible refine Kd.C_alloc ?_ _) | (with_reducible refine Kd.C_drewN ?_ _) | (with_reducible refine Kd.C_drew ?_))); (case side4 => exact (Kd.R_reads' HO282.out).2.1); rintro e w' ⟨rfl, ⟨nd, rfl⟩⟩; refine ⟨_, rfl, ?_⟩) | (go_at_call 12; (with_reducible refine (lcs_Length.calls kj4 _ _ l0 _ _ l1 t284 _ ?side1 ?side2 ?side3 ?side4 A18.out).mono ?_); (case side1 => repeat (first | exact (Kd.C_below HR0.out (by repeat (first | (with_reducible first | exact HB.out | apply below_alloc | apply pw_below_drewN | apply below_drew1) | exact HB.out))) | (with_reducible refine Kd.C_alloc ?_ _) | (with_reducible refine Kd.C_drewN ?_ _) | (with_reducible refine Kd.C_drew ?_))); (case side2 => exact HC0.out); (case side3 => repeat (first | exact (Kd.C_below HR1.out (by repeat (first | (with_reducible first | exact HB.out | apply below_alloc | apply pw_below_drewN | apply below_drew1) | exact HB.out))) | (with_reducible refine Kd.C_alloc ?_ _) | (with_reducible refine Kd.C_drewN ?_ _) | (with_reducible refine Kd.C_drew ?_))); (case side4 => exact HC1.out); rintro e w27 ⟨rfl, hb⟩; have n0_ := Aside0.mk (Kd.R_below (by (with_reducible repeat (first | apply Kd.R_alloc | apply Kd.R_drewN | apply Kd.R_drew)); exact HO279.out) hb); have n1_ := Aside0.mk (Kd.R_below (by (with_reducible repeat (first | apply Kd.R_alloc | apply Kd.R_drewN | apply Kd.R_drew)); exact HO282.out) hb); have n2_ := Aside0.mk (below_step (by repeat (first | (with_reducible first | exact HB.out | apply below_alloc | apply pw_below_drewN | apply below_drew1) | exact HB.out)) hb); clear HO279; clear HO282; clear HB; have HO279 := n0_; have HO282 := n1_; have HB := n2_; clear n0_ n1_ n2_; (try clear hb); (try clear hb2); (try clear hk); (try clear hi)) | (go_at_call 13; (with_reducible refine (concordatref05_Length.calls kj4 _ _ l0 _ _ l1 t285 _ ?side1 ?side2 ?side3 ?side4 A19.out).mono ?_); (case side1 => repeat (first | exact (Kd.C_below HR0.out HB.out) | (with_reducible refine Kd.C_alloc ?_ _) | (with_reducible refine Kd.C_drewN ?_ _) | (with_reducible refine Kd.C_drew ?_))); (case side2 => exact HC0.out); (case side3 => repeat (first | exact (Kd.C_below HR1.out HB.out) | (with_reducible refine Kd.C_alloc ?_ _) | (with_reducible refine Kd.C_drewN ?_ _) | (with_reducible refine Kd.C_drew ?_))); (case side4 => exact HC1.out); rintro e w28 ⟨rfl, hb⟩; have n0_ := Aside0.mk (Kd.R_below (by (with_reducible repeat (first | apply Kd.R_alloc | apply Kd.R_drewN | apply Kd.R_drew)); exact HO279.out) hb); have n1_ := Aside0.mk (Kd.R_below (by (with_reducible repeat (first | apply Kd.R_alloc | apply Kd.R_drewN | apply Kd.R_drew)); exact HO282.out) hb); have n2_ := Aside0.mk (below_step (by repeat (first | (with_reducible first | exact HB.out | apply below_alloc | apply pw_below_drewN | apply below_drew1) | exact HB.out)) hb); clear HO279; clear HO282; clear HB; have HO279 := n0_; have HO282 := n1_; have HB := n2_; clear n0_ n1_ n2_; (try clear hb); (try clear hb2); (try clear hk); (try clear hi)) | (go_at_call 14; (with_reducible refine (lcs_Percent.calls kj4 _ _ l0 _ _ l1 t286 _ ?side1 ?side2 ?side3 ?side4 A21.out).mono ?_); (case side1 => repeat (first | exact (Kd.C_below HR0.out HB.out) | (with_reducible refine Kd.C_alloc ?_ _) | (with_reducible refine Kd.C_drewN ?_ _) | (with_reducible refine Kd.C_drew ?_))); (case side2 => exact HC0.out); (case side3 => repeat (first | exact (Kd.C_below HR1.out HB.out) | (with_reducible refine Kd.C_alloc ?_ _) | (with_reducible refine Kd.C_drewN ?_ _) | (with_reducible refine Kd.C_drew ?_))); (case side4 => exact HC1.out); rintro e w29 ⟨rfl, hb⟩; have n0_ := Aside0.mk (Kd.R_below (by (with_reducible repeat (first | apply Kd.R_alloc | apply Kd.R_drewN | apply Kd.R_drew)); exact HO279.out) hb); have n1_ := Aside0.mk (Kd.R_below (by (with_reducible repeat (first | apply Kd.R_alloc | apply Kd.R_drewN | apply Kd.R_drew)); exact HO282.out) hb); have n2_ := Aside0.mk (below_step (by repeat (first | (with_reducible first | exact HB.out | apply below_alloc | apply pw_below_drewN | apply below_drew1) | exact HB.out)) hb); clear HO279; clear HO282; clear HB; have HO279 := n0_; have HO282 := n1_; have HB := n2_; clear n0_ n1_ n2_; (try clear hb); (try clear hb2); (try clear hk); (try clear hi)) | (go_at_call 15; (with_reducible refine (concordatref05_Percent.calls kj4 _ _ l0 _ _ l1 t287 _ ?side1 ?side2 ?side3 ?side4 A22.out).mono ?_); (case side1 => repeat (first | exact (Kd.C_below HR0.out HB.out) | (with_reducible refine Kd.C_alloc ?_ _) | (with_reducible refine Kd.C_drewN ?_ _) | (with_reducible refine Kd.C_drew ?_))); (case side2 => exact HC0.out); (case side3 => repeat (first | exact (Kd.C_below HR1.out HB.out) | (with_reducible refine Kd.C_alloc ?_ _) | (with_reducible refine Kd.C_drewN ?_ _) | (with_reducible refine Kd.C_drew ?_))); (case side4 => exact HC1.out); rintro e w30 ⟨rfl, hb⟩; have n0_ := Aside0.mk (Kd.R_below (by (with_reducible repeat (first | apply Kd.R_alloc | apply Kd.R_drewN | apply Kd.R_drew)); exact HO279.out) hb); have n1_ := Aside0.mk (Kd.R_below (by (with_reducible repeat (first | apply Kd.R_alloc | apply Kd.R_drewN | apply Kd.R_drew)); exact HO282.out) hb); have n2_ := Aside0.mk (below_step (by repeat (first | (with_reducible first | exact HB.out | apply below_alloc | apply pw_below_drewN | apply below_drew1) | exact HB.out)) hb); clear HO279; clear HO282; clear HB; have HO279 := n0_; have HO282 := n1_; have HB := n2_; clear n0_ n1_ n2_; (try clear hb); (try clear hb2); (try clear hk); (try clear hi)))
              go_ret
              exact ⟨by first | rfl | (simp [errW_none, errW_some] <;> rfl) | (simp [*, errW_none, errW_some] <;> rfl), by repeat (first | (with_reducible first | exact HB.out | apply below_alloc | apply pw_below_drewN | apply below_drew1) | exact HB.out)⟩
            · rw [if_neg c20] at H
              exact absurd H (by simp)
          · replace c17 := Bool.eq_false_iff.mpr c17
            subst c17
            have H1 : (none) = some r := by rw [if_neg (show ¬ (false = true) by decide)] at H; exact H
            clear H
            have H := H1
            clear H1
            exact absurd H (by simp)
  · replace c4 := Bool.eq_false_iff.mpr c4
    subst c4
    have H1 : (none) = some r := by rw [if_neg (show ¬ (false = true) by decide)] at H; exact H
    clear H
    have H := H1
    clear H1
    exact absurd H (by simp)

/-- THE ONE PURE STATEMENT of concordatlaw05_LcsMatches: yours. -/
def concordatlaw05_LcsMatches.Pure : Prop := ∀ (l0 : List Int) (l1 : List Int), l0.length ≤ maxLen → l0.length * 8 ≤ 140737488351232 → (∀ x ∈ l0, (Lit.int .i64 x).wf = true) → l1.length ≤ maxLen → l1.length * 8 ≤ 140737488351232 → (∀ x ∈ l1, (Lit.int .i64 x).wf = true) → ∃ k, concordatlaw05_LcsMatches.f k l0 l1 = some true
theorem concordatlaw05_LcsMatches.walk (P : concordatlaw05_LcsMatches.Pure) (a0 : Option Addr) (len0 cap0 : Nat) (z0 : List Int) (a1 : Option Addr) (len1 cap1 : Nat) (z1 : List Int) (w : World) (w0 : (a0 = none ∧ len0 = 0 ∧ cap0 = 0 ∧ z0 = []) ∨ ∃ x, a0 = some x ∧ len0 ≤ cap0 ∧ cap0 ≤ maxLen ∧ z0.length = cap0 ∧ (∀ i, i < z0.length → w.cell? (x.add i) = some (.int .i64 (z0.getD i 0))) ∧ ∀ n ∈ z0, (Lit.int .i64 n).wf = true) (y0 : len0 * 8 ≤ 140737488351232) (w1 : (a1 = none ∧ len1 = 0 ∧ cap1 = 0 ∧ z1 = []) ∨ ∃ x, a1 = some x ∧ len1 ≤ cap1 ∧ cap1 ≤ maxLen ∧ z1.length = cap1 ∧ (∀ i, i < z1.length → w.cell? (x.add i) = some (.int .i64 (z1.getD i 0))) ∧ ∀ n ∈ z1, (Lit.int .i64 n).wf = true) (y1 : len1 * 8 ≤ 140737488351232) :
    Calls Try.prog 3 #[.slice a0 len0 cap0, .slice a1 len1 cap1] w fun e w' => e = .returned (.bool true) ∧ Below w.heap.size w w' := by
  obtain ⟨l0, rfl, hr0, hm0, hw0, hc0⟩ := ReadsInt.ofRowC w0
  obtain ⟨l1, rfl, hr1, hm1, hw1, hc1⟩ := ReadsInt.ofRowC w1
  obtain ⟨k, h⟩ := P l0 l1 hm0 y0 hw0 hm1 y1 hw1
  refine (concordatlaw05_LcsMatches.calls k _ _ l0 _ _ l1 true w (Kd.C_of_reads (d := (0 : Int)) (h1 := fun _ => rfl) hr0) hc0 (Kd.C_of_reads (d := (0 : Int)) (h1 := fun _ => rfl) hr1) hc1 h).mono ?_
  rintro e w' ⟨rfl, hd⟩
  exact ⟨rfl, hd⟩

end Go.Proofs.Ytjbgdoapbehopaa.PLcsMatches
