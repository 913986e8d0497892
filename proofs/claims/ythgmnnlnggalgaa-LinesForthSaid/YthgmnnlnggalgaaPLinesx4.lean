/- Laid by a program of this session out of the seat's translation. -/
import Derived.Test.YthgmnnlnggalgaaPLinesx0
import Derived.Test.YthgmnnlnggalgaaPLinesx1
import Derived.Test.YthgmnnlnggalgaaPLinesx2
namespace Go.Proofs.Ythgmnnlnggalgaa.PLines
open Go.RowKit Go.Proofs.YthgmnnlnggalgaaW.PrintWords Go.Proofs.YthgmnnlnggalgaaW.PrintLast Go.Proofs.YthgmnnlnggalgaaW.PrintMore
attribute [local go_sem] max2_int min2_int max_two min_two max_three min_three max_four min_four   -- for this text's walks alone
set_option linter.unusedVariables false
set_option linter.unusedSimpArgs false

/-! ### concordatlaw01_LinesBack: function 5 -/
mutual
def concordatlaw01_LinesBack.l0 : Nat → ByteArray → List ByteArray → Int → Option (Bool)
  | 0, _, _, _ => none
  | k + 1, x0, x4, x5 => if x5 < (x4.length : Int) then (if 0 ≤ x5 then (if ((rdOf ByteArray.empty x4 x5).size : Int) = 0 then (none) else (concordatlaw01_LinesBack.l1 k x0 x4 x5 0)) else (none)) else ((lines_Whole.f x0).bind fun t165 => ((lines_Join.f x4).bind fun t166 => (if t166.toList = x0.toList then ((lines_Count.f x0).bind fun t167 => (if t167 = (x4.length : Int) then ((lines_Count.f t165).bind fun t168 => (if t168 = (x4.length : Int) then ((lines_Whole.f t165).bind fun t169 => (some (t169.toList == t165.toList))) else (none))) else (none))) else (none))))
def concordatlaw01_LinesBack.l1 : Nat → ByteArray → List ByteArray → Int → Int → Option (Bool)
  | 0, _, _, _, _ => none
  | k + 1, x0, x4, x5, x6 => if 0 ≤ x5 then (if x5 < (x4.length : Int) then (if x6 < (wrap64 (((rdOf ByteArray.empty x4 x5).size : Int) - 1)) then (if 0 ≤ x6 then (if x6 < ((rdOf ByteArray.empty x4 x5).size : Int) then (if (bt (rdOf ByteArray.empty x4 x5) x6) = 10 then (none) else (concordatlaw01_LinesBack.l1 k x0 x4 x5 (wrap64 (x6 + 1)))) else (none)) else (none)) else (if (wrap64 (x5 + 1)) < (x4.length : Int) then (if 0 ≤ (wrap64 (((rdOf ByteArray.empty x4 x5).size : Int) - 1)) then (if (wrap64 (((rdOf ByteArray.empty x4 x5).size : Int) - 1)) < ((rdOf ByteArray.empty x4 x5).size : Int) then (if (bt (rdOf ByteArray.empty x4 x5) (wrap64 (((rdOf ByteArray.empty x4 x5).size : Int) - 1))) = 10 then (concordatlaw01_LinesBack.l0 k x0 x4 (wrap64 (x5 + 1))) else (none)) else (none)) else (none)) else (concordatlaw01_LinesBack.l0 k x0 x4 (wrap64 (x5 + 1))))) else (none)) else (none)
end
def concordatlaw01_LinesBack.f (k : Nat) (a0 : ByteArray) : Option (Bool) := (concordatlaw01_awake.f k).bind fun t156 => (if t156 = true then (if (a0.size : Int) > 5000 then (some true) else ((lines_Split.f a0).bind fun t157 => (concordatlaw01_LinesBack.l0 k a0 t157 0))) else (none))
theorem concordatlaw01_LinesBack.mono_l : ∀ k, (∀ y0 y1 y2, LeO (concordatlaw01_LinesBack.l0 k y0 y1 y2) (concordatlaw01_LinesBack.l0 (k + 1) y0 y1 y2)) ∧ (∀ y0 y1 y2 y3, LeO (concordatlaw01_LinesBack.l1 k y0 y1 y2 y3) (concordatlaw01_LinesBack.l1 (k + 1) y0 y1 y2 y3))
  | 0 => ⟨fun _ _ _ r h => by simp [concordatlaw01_LinesBack.l0] at h, fun _ _ _ _ r h => by simp [concordatlaw01_LinesBack.l1] at h⟩
  | k + 1 => by
    obtain ⟨ih0, ih1⟩ := concordatlaw01_LinesBack.mono_l k
    refine ⟨?_, ?_⟩
    · intro y0 y1 y2
      unfold concordatlaw01_LinesBack.l0
      repeat' first
      | (with_reducible exact ih0 _ _ _)
      | (with_reducible exact ih1 _ _ _ _)
      | (with_reducible exact concordatlaw01_awake.mono _)
      | (with_reducible exact LeO.refl _)
      | (with_reducible exact LeO.none _)
      | (with_reducible refine LeO.ite ?_ ?_)
      | (with_reducible refine LeO.bind ?_ (fun _ => ?_))
      | exact ih0 _ _ _
      | exact ih1 _ _ _ _
      | exact concordatlaw01_awake.mono _
      | exact LeO.none _
      | refine LeO.ite ?_ ?_
      | refine LeO.bind ?_ (fun _ => ?_)
    · intro y0 y1 y2 y3
      unfold concordatlaw01_LinesBack.l1
      repeat' first
      | (with_reducible exact ih0 _ _ _)
      | (with_reducible exact ih1 _ _ _ _)
      | (with_reducible exact concordatlaw01_awake.mono _)
      | (with_reducible exact LeO.refl _)
      | (with_reducible exact LeO.none _)
      | (with_reducible refine LeO.ite ?_ ?_)
      | (with_reducible refine LeO.bind ?_ (fun _ => ?_))
      | exact ih0 _ _ _
      | exact ih1 _ _ _ _
      | exact concordatlaw01_awake.mono _
      | exact LeO.none _
      | refine LeO.ite ?_ ?_
      | refine LeO.bind ?_ (fun _ => ?_)
theorem concordatlaw01_LinesBack.mono : ∀ a0 k, LeO (concordatlaw01_LinesBack.f k a0) (concordatlaw01_LinesBack.f (k + 1) a0) := by
  intro a0 k
  obtain ⟨ih0, ih1⟩ := concordatlaw01_LinesBack.mono_l k
  unfold concordatlaw01_LinesBack.f
  repeat' first
      | (with_reducible exact ih0 _ _ _)
      | (with_reducible exact ih1 _ _ _ _)
      | (with_reducible exact concordatlaw01_awake.mono _)
      | (with_reducible exact LeO.refl _)
      | (with_reducible exact LeO.none _)
      | (with_reducible refine LeO.ite ?_ ?_)
      | (with_reducible refine LeO.bind ?_ (fun _ => ?_))
      | exact ih0 _ _ _
      | exact ih1 _ _ _ _
      | exact concordatlaw01_awake.mono _
      | exact LeO.none _
      | refine LeO.ite ?_ ?_
      | refine LeO.bind ?_ (fun _ => ?_)
set_option maxHeartbeats 8000000 in
set_option maxRecDepth 100000 in
theorem concordatlaw01_LinesBack.calls (k : Nat) (a0 : ByteArray) (r : Bool) (w : World) (h : concordatlaw01_LinesBack.f k a0 = some r) :
    Calls Try.prog 5 #[.string a0] w fun e w' => e = .returned (.bool r) ∧ Below w.heap.size w w' := by
  have HB := Aside0.mk (Below.refl w.heap.size w)
  have H : ((concordatlaw01_awake.f k).bind fun t156 => (if t156 = true then (if (a0.size : Int) > 5000 then (some true) else ((lines_Split.f a0).bind fun t157 => (concordatlaw01_LinesBack.l0 k a0 t157 0))) else (none))) = some r := h
  clear h
  replace H := Option.bind_eq_some_iff.mp H
  obtain ⟨t156, A20, H⟩ := H
  replace H : (if t156 = true then (if (a0.size : Int) > 5000 then (some true) else ((lines_Split.f a0).bind fun t157 => (concordatlaw01_LinesBack.l0 k a0 t157 0))) else (none)) = some r := H
  have A2 := Aside0.mk A20
  clear A20
  by_cases c3 : t156 = true
  · subst c3
    have H1 : (if (a0.size : Int) > 5000 then (some true) else ((lines_Split.f a0).bind fun t157 => (concordatlaw01_LinesBack.l0 k a0 t157 0))) = some r := by rw [if_pos rfl] at H; exact H
    clear H
    have H := H1
    clear H1
    by_cases c4 : (a0.size : Int) > 5000
    · rw [if_pos c4] at H
      have c4b0 : decide (5000 < (a0.size : Int)) = true := decide_eq_true c4
      have c4b1 : decide (5000 < a0.size) = true := decide_eq_true (by omega)
      clear c4
      obtain rfl := Option.some.inj H
      go_enter Try.func5, Try.ntmps5
      go_wp2_with (first | (go_at_call 8; (with_reducible refine (concordatlaw01_awake.calls k  true _ A2.out).mono ?_); rintro e w5 ⟨rfl, hb⟩; have n0_ := Aside0.mk (below_step (by repeat (first | (with_reducible first | exact HB.out | apply below_alloc | apply pw_below_drewN | apply below_drew1) | exact HB.out)) hb); clear HB; have HB := n0_; clear n0_; (try clear hb); (try clear hb2); (try clear hk); (try clear hi)))
      repeat (go_quiet (first | (go_at_call 8; (with_reducible refine (concordatlaw01_awake.calls k  true _ A2.out).mono ?_); rintro e w5 ⟨rfl, hb⟩; have n0_ := Aside0.mk (below_step (by repeat (first | (with_reducible first | exact HB.out | apply below_alloc | apply pw_below_drewN | apply below_drew1) | exact HB.out)) hb); clear HB; have HB := n0_; clear n0_; (try clear hb); (try clear hb2); (try clear hk); (try clear hi))); try go_wp2_with (first | (go_at_call 8; (with_reducible refine (concordatlaw01_awake.calls k  true _ A2.out).mono ?_); rintro e w5 ⟨rfl, hb⟩; have n0_ := Aside0.mk (below_step (by repeat (first | (with_reducible first | exact HB.out | apply below_alloc | apply pw_below_drewN | apply below_drew1) | exact HB.out)) hb); clear HB; have HB := n0_; clear n0_; (try clear hb); (try clear hb2); (try clear hk); (try clear hi))))
      go_ret
      exact ⟨by first | rfl | (simp [errW_none, errW_some] <;> rfl) | (simp [*, errW_none, errW_some] <;> rfl), by repeat (first | (with_reducible first | exact HB.out | apply below_alloc | apply pw_below_drewN | apply below_drew1) | exact HB.out)⟩
    · rw [if_neg c4] at H
      have c4b0 : decide (5000 < (a0.size : Int)) = false := decide_eq_false c4
      have c4b1 : decide (5000 < a0.size) = false := decide_eq_false (by omega)
      clear c4
      replace H := Option.bind_eq_some_iff.mp H
      obtain ⟨t157, A60, H⟩ := H
      replace H : (concordatlaw01_LinesBack.l0 k a0 t157 0) = some r := H
      have A6 := Aside0.mk A60
      clear A60
      have H' := Aside0.mk H
      clear H
      go_enter Try.func5, Try.ntmps5
      go_wp2_with (first | (go_at_call 8; (with_reducible refine (concordatlaw01_awake.calls k  true _ A2.out).mono ?_); rintro e w7 ⟨rfl, hb⟩; have n0_ := Aside0.mk (below_step (by repeat (first | (with_reducible first | exact HB.out | apply below_alloc | apply pw_below_drewN | apply below_drew1) | exact HB.out)) hb); clear HB; have HB := n0_; clear n0_; (try clear hb); (try clear hb2); (try clear hk); (try clear hi)) | (go_at_call 11; (with_reducible refine (lines_Split.calls a0 t157 _ A6.out).mono ?_); rintro e w8 ⟨v158, rfl, ho0, hb⟩; have n0_ := Aside0.mk (Kd.R_lower ho0 (below_size (by repeat (first | (with_reducible first | exact HB.out | apply below_alloc | apply pw_below_drewN | apply below_drew1) | exact HB.out)))); have n1_ := Aside0.mk (below_step (by repeat (first | (with_reducible first | exact HB.out | apply below_alloc | apply pw_below_drewN | apply below_drew1) | exact HB.out)) hb); clear HB; have HO159 := n0_; have HB := n1_; clear n0_ n1_; (try clear hb); (try clear hb2); (try clear hk); (try clear hi); (try clear ho0)))
      repeat (go_quiet (first | (go_at_call 8; (with_reducible refine (concordatlaw01_awake.calls k  true _ A2.out).mono ?_); rintro e w7 ⟨rfl, hb⟩; have n0_ := Aside0.mk (below_step (by repeat (first | (with_reducible first | exact HB.out | apply below_alloc | apply pw_below_drewN | apply below_drew1) | exact HB.out)) hb); clear HB; have HB := n0_; clear n0_; (try clear hb); (try clear hb2); (try clear hk); (try clear hi)) | (go_at_call 11; (with_reducible refine (lines_Split.calls a0 t157 _ A6.out).mono ?_); rintro e w8 ⟨v158, rfl, ho0, hb⟩; have n0_ := Aside0.mk (Kd.R_lower ho0 (below_size (by repeat (first | (with_reducible first | exact HB.out | apply below_alloc | apply pw_below_drewN | apply below_drew1) | exact HB.out)))); have n1_ := Aside0.mk (below_step (by repeat (first | (with_reducible first | exact HB.out | apply below_alloc | apply pw_below_drewN | apply below_drew1) | exact HB.out)) hb); clear HB; have HO159 := n0_; have HB := n1_; clear n0_ n1_; (try clear hb); (try clear hb2); (try clear hk); (try clear hi); (try clear ho0))); try go_wp2_with (first | (go_at_call 8; (with_reducible refine (concordatlaw01_awake.calls k  true _ A2.out).mono ?_); rintro e w7 ⟨rfl, hb⟩; have n0_ := Aside0.mk (below_step (by repeat (first | (with_reducible first | exact HB.out | apply below_alloc | apply pw_below_drewN | apply below_drew1) | exact HB.out)) hb); clear HB; have HB := n0_; clear n0_; (try clear hb); (try clear hb2); (try clear hk); (try clear hi)) | (go_at_call 11; (with_reducible refine (lines_Split.calls a0 t157 _ A6.out).mono ?_); rintro e w8 ⟨v158, rfl, ho0, hb⟩; have n0_ := Aside0.mk (Kd.R_lower ho0 (below_size (by repeat (first | (with_reducible first | exact HB.out | apply below_alloc | apply pw_below_drewN | apply below_drew1) | exact HB.out)))); have n1_ := Aside0.mk (below_step (by repeat (first | (with_reducible first | exact HB.out | apply below_alloc | apply pw_below_drewN | apply below_drew1) | exact HB.out)) hb); clear HB; have HO159 := n0_; have HB := n1_; clear n0_ n1_; (try clear hb); (try clear hb2); (try clear hk); (try clear hi); (try clear ho0))))
      go_loopg [5] k (fun kq v5 w' => ∃ (x5_1 : Int), v5 = .int .i64 x5_1 ∧ Aside0 (concordatlaw01_LinesBack.l0 kq a0 t157 x5_1 = some r) ∧ Aside0 (kq ≤ k) ∧ Aside0 (Kd.R Kd.string 9 w' w.heap.size (fun _ => True) v158 t157) ∧ Aside0 (Below w.heap.size w w'))
      case atStart => exact ⟨(0), (by first | rfl | (simp; done) | (simp [*]; done)), H', ⟨Nat.le_refl _⟩, ⟨by (with_reducible repeat (first | apply Kd.R_alloc | apply Kd.R_drewN | apply Kd.R_drew)); first | exact HO159.out | exact Kd.R_mono HO159.out (fun _ _ => trivial)⟩, ⟨by repeat (first | (with_reducible first | exact HB.out | apply below_alloc | apply pw_below_drewN | apply below_drew1) | exact HB.out)⟩⟩
      case round =>
        clear H'
        try clear p2
        try clear c3
        try clear c4
        try clear c4b0
        try clear c4b1
        try clear c5
        obtain ⟨x5_1, rfl, HA, HK1, HO_4, HB⟩ := hrel
        cases gk with
        | zero => exact absurd HA.out (by simp [concordatlaw01_LinesBack.l0])
        | succ k1 =>
          have H := HA.out
          clear HA
          simp only [concordatlaw01_LinesBack.l0] at H
          by_cases c9 : x5_1 < (t157.length : Int)
          · rw [if_pos c9] at H
            have c9b0 : decide (x5_1 < (t157.length : Int)) = true := decide_eq_true c9
            clear c9
            by_cases c10 : 0 ≤ x5_1
            · rw [if_pos c10] at H
              have c10b0 : decide (0 ≤ x5_1) = true := decide_eq_true c10
              clear c10
              by_cases c11 : ((rdOf ByteArray.empty t157 x5_1).size : Int) = 0
              · rw [if_pos c11] at H
                exact absurd H (by simp)
              · rw [if_neg c11] at H
                have c11b0 : (((rdOf ByteArray.empty t157 x5_1).size : Int) == 0) = false := beq_eq_false_iff_ne.mpr c11
                have c11b1 : (((rdOf ByteArray.empty t157 x5_1).size : Int) != 0) = true := bne_iff_ne.mpr c11
                have H' := Aside0.mk H
                clear H
                obtain ⟨Ao12, co12, eo12⟩ := Kd.R_slice HO_4.out
                subst eo12
                have p160 : 0 ≤ (x5_1 : Int) := of_decide_eq_true (by first | (with_reducible assumption) | assumption)
                have q160 : x5_1 < (t157.length : Int) := of_decide_eq_true (by first | (with_reducible assumption) | assumption)
                obtain ⟨ad160, e160, hx160_0⟩ := Kd.at_string (Kd.R_reads' HO_4.out).2.2 x5_1 p160 q160
                cases e160
                replace p160 := eq_true p160
                replace q160 := eq_true q160
                go_wp2
                repeat (go_quiet (fail); try go_wp2)
                go_loopg [6] k1 (fun kq v6 w' => ∃ (x6_2 : Int), v6 = .int .i64 x6_2 ∧ Aside0 (concordatlaw01_LinesBack.l1 kq a0 t157 x5_1 x6_2 = some r) ∧ Aside0 (kq ≤ k1) ∧ Aside0 (Kd.R Kd.string 9 w' w.heap.size (fun _ => True) (.slice (some ad160) t157.length co12) t157) ∧ Aside0 (Below w.heap.size w w'))
                case atStart => exact ⟨(0), (by first | rfl | (simp; done) | (simp [*]; done)), H', ⟨Nat.le_refl _⟩, ⟨by (with_reducible repeat (first | apply Kd.R_alloc | apply Kd.R_drewN | apply Kd.R_drew)); first | exact HO_4.out | exact Kd.R_mono HO_4.out (fun _ _ => trivial)⟩, ⟨by repeat (first | (with_reducible first | exact HB.out | apply below_alloc | apply pw_below_drewN | apply below_drew1) | exact HB.out)⟩⟩
                case round =>
                  clear H'
                  try clear c1
                  try clear p1
                  try clear q1
                  try clear hx1
                  try clear p2
                  try clear c3
                  try clear c4
                  try clear c4b0
                  try clear c4b1
                  try clear c5
                  try clear c9
                  try clear c9b0
                  try clear c10
                  try clear c10b0
                  try clear c11
                  try clear c11b0
                  try clear c11b1
                  try clear hx160_0
                  try clear p160
                  try clear p2
                  try clear q160
                  obtain ⟨x6_2, rfl, HA, HK2, HO_4, HB⟩ := hrel
                  cases gk with
                  | zero => exact absurd HA.out (by simp [concordatlaw01_LinesBack.l1])
                  | succ k2 =>
                    have H := HA.out
                    clear HA
                    simp only [concordatlaw01_LinesBack.l1] at H
                    by_cases c13 : 0 ≤ x5_1
                    · rw [if_pos c13] at H
                      have c13b0 : decide (0 ≤ x5_1) = true := decide_eq_true c13
                      clear c13
                      by_cases c14 : x5_1 < (t157.length : Int)
                      · rw [if_pos c14] at H
                        have c14b0 : decide (x5_1 < (t157.length : Int)) = true := decide_eq_true c14
                        clear c14
                        by_cases c15 : x6_2 < (wrap64 (((rdOf ByteArray.empty t157 x5_1).size : Int) - 1))
                        · rw [if_pos c15] at H
                          have c15b0 : decide (x6_2 < (wrap64 (((rdOf ByteArray.empty t157 x5_1).size : Int) - 1))) = true := decide_eq_true c15
                          clear c15
                          by_cases c16 : 0 ≤ x6_2
                          · rw [if_pos c16] at H
                            have c16b0 : decide (0 ≤ x6_2) = true := decide_eq_true c16
                            clear c16
                            by_cases c17 : x6_2 < ((rdOf ByteArray.empty t157 x5_1).size : Int)
                            · rw [if_pos c17] at H
                              have c17b0 : decide (x6_2 < ((rdOf ByteArray.empty t157 x5_1).size : Int)) = true := decide_eq_true c17
                              clear c17
                              by_cases c19 : (bt (rdOf ByteArray.empty t157 x5_1) x6_2) = 10
                              · rw [if_pos c19] at H
                                exact absurd H (by simp)
                              · rw [if_neg c19] at H
                                have c19b0 : ((bt (rdOf ByteArray.empty t157 x5_1) x6_2) == 10) = false := beq_eq_false_iff_ne.mpr c19
                                have c19b1 : ((bt (rdOf ByteArray.empty t157 x5_1) x6_2) != 10) = true := bne_iff_ne.mpr c19
                                have H' := Aside0.mk H
                                clear H
                                have p161 : 0 ≤ (x5_1 : Int) := of_decide_eq_true (by first | (with_reducible assumption) | assumption)
                                have q161 : x5_1 < (t157.length : Int) := of_decide_eq_true (by first | (with_reducible assumption) | assumption)
                                obtain ⟨ad161, e161, hx161_0⟩ := Kd.at_string (Kd.R_reads' HO_4.out).2.2 x5_1 p161 q161
                                obtain rfl : ad160 = ad161 := (by injection e161)
                                replace p161 := eq_true p161
                                replace q161 := eq_true q161
                                have p162 : 0 ≤ (x5_1 : Int) := of_decide_eq_true (by first | (with_reducible assumption) | assumption)
                                have q162 : x5_1 < (t157.length : Int) := of_decide_eq_true (by first | (with_reducible assumption) | assumption)
                                obtain ⟨ad162, e162, hx162_0⟩ := Kd.at_string (Kd.R_reads' HO_4.out).2.2 x5_1 p162 q162
                                obtain rfl : ad160 = ad162 := (by injection e162)
                                replace p162 := eq_true p162
                                replace q162 := eq_true q162
                                have p18 : 0 ≤ (x6_2 : Int) := of_decide_eq_true (by first | (with_reducible assumption) | assumption)
                                have q18 : x6_2 < ((rdOf ByteArray.empty t157 x5_1).size : Int) := of_decide_eq_true (by first | (with_reducible assumption) | assumption)
                                have hx18 := bt_at (rdOf ByteArray.empty t157 x5_1) x6_2
                                replace p18 := eq_true p18
                                replace q18 := eq_true q18
                                go_wp2
                                repeat (go_quiet (fail); try go_wp2)
                                go_roundg k2
                                case measure => have := HK1.out; have := HK2.out; omega
                                case rel => exact ⟨(wrap64 (x6_2 + 1)), (by first | rfl | (simp; done) | (simp [*]; done)), H', ⟨by have := HK1.out; have := HK2.out; omega⟩, ⟨by (with_reducible repeat (first | apply Kd.R_alloc | apply Kd.R_drewN | apply Kd.R_drew)); first | exact HO_4.out | exact Kd.R_mono HO_4.out (fun _ _ => trivial)⟩, ⟨by repeat (first | (with_reducible first | exact HB.out | apply below_alloc | apply pw_below_drewN | apply below_drew1) | exact HB.out)⟩⟩
                            · rw [if_neg c17] at H
                              exact absurd H (by simp)
                          · rw [if_neg c16] at H
                            exact absurd H (by simp)
                        · rw [if_neg c15] at H
                          have c15b0 : decide (x6_2 < (wrap64 (((rdOf ByteArray.empty t157 x5_1).size : Int) - 1))) = false := decide_eq_false c15
                          clear c15
                          by_cases c20 : (wrap64 (x5_1 + 1)) < (t157.length : Int)
                          · rw [if_pos c20] at H
                            have c20b0 : decide ((wrap64 (x5_1 + 1)) < (t157.length : Int)) = true := decide_eq_true c20
                            clear c20
                            obtain ⟨ji21, hji21⟩ : ∃ j_ : Int, (wrap64 (((rdOf ByteArray.empty t157 x5_1).size : Int) - 1)) = j_ := ⟨_, rfl⟩
                            replace H : (if 0 ≤ (ji21) then (if (ji21) < ((rdOf ByteArray.empty t157 x5_1).size : Int) then (if (bt (rdOf ByteArray.empty t157 x5_1) (ji21)) = 10 then (concordatlaw01_LinesBack.l0 k2 a0 t157 (wrap64 (x5_1 + 1))) else (none)) else (none)) else (none)) = some r := by first | (rw [hji21] at H; exact H) | (simp only [hji21] at H ⊢; exact H)
                            (try rw [hji21] at c15b0)
                            have hji21w : (IntKind.i64.wrap (((rdOf ByteArray.empty t157 x5_1).size : Int) - 1)) = ji21 := (i64_w _).trans hji21
                            by_cases c22 : 0 ≤ (ji21)
                            · rw [if_pos c22] at H
                              have c22b0 : decide (0 ≤ (ji21)) = true := decide_eq_true c22
                              clear c22
                              by_cases c23 : (ji21) < ((rdOf ByteArray.empty t157 x5_1).size : Int)
                              · rw [if_pos c23] at H
                                have c23b0 : decide ((ji21) < ((rdOf ByteArray.empty t157 x5_1).size : Int)) = true := decide_eq_true c23
                                clear c23
                                by_cases c25 : (bt (rdOf ByteArray.empty t157 x5_1) (ji21)) = 10
                                · rw [if_pos c25] at H
                                  have c25b0 : ((bt (rdOf ByteArray.empty t157 x5_1) (ji21)) == 10) = true := beq_iff_eq.mpr c25
                                  have c25b1 : ((bt (rdOf ByteArray.empty t157 x5_1) (ji21)) != 10) = false := bne_eq_false_iff_eq.mpr c25
                                  clear c25
                                  have H' := Aside0.mk H
                                  clear H
                                  have p161 : 0 ≤ (x5_1 : Int) := of_decide_eq_true (by first | (with_reducible assumption) | assumption)
                                  have q161 : x5_1 < (t157.length : Int) := of_decide_eq_true (by first | (with_reducible assumption) | assumption)
                                  obtain ⟨ad161, e161, hx161_0⟩ := Kd.at_string (Kd.R_reads' HO_4.out).2.2 x5_1 p161 q161
                                  obtain rfl : ad160 = ad161 := (by injection e161)
                                  replace p161 := eq_true p161
                                  replace q161 := eq_true q161
                                  have p163 : 0 ≤ (x5_1 : Int) := of_decide_eq_true (by first | (with_reducible assumption) | assumption)
                                  have q163 : x5_1 < (t157.length : Int) := of_decide_eq_true (by first | (with_reducible assumption) | assumption)
                                  obtain ⟨ad163, e163, hx163_0⟩ := Kd.at_string (Kd.R_reads' HO_4.out).2.2 x5_1 p163 q163
                                  obtain rfl : ad160 = ad163 := (by injection e163)
                                  replace p163 := eq_true p163
                                  replace q163 := eq_true q163
                                  have p164 : 0 ≤ (x5_1 : Int) := of_decide_eq_true (by first | (with_reducible assumption) | assumption)
                                  have q164 : x5_1 < (t157.length : Int) := of_decide_eq_true (by first | (with_reducible assumption) | assumption)
                                  obtain ⟨ad164, e164, hx164_0⟩ := Kd.at_string (Kd.R_reads' HO_4.out).2.2 x5_1 p164 q164
                                  obtain rfl : ad160 = ad164 := (by injection e164)
                                  replace p164 := eq_true p164
                                  replace q164 := eq_true q164
                                  have p24 : 0 ≤ ((ji21) : Int) := of_decide_eq_true (by first | (with_reducible assumption) | assumption)
                                  have q24 : (ji21) < ((rdOf ByteArray.empty t157 x5_1).size : Int) := of_decide_eq_true (by first | (with_reducible assumption) | assumption)
                                  have hx24 := bt_at (rdOf ByteArray.empty t157 x5_1) (ji21)
                                  replace p24 := eq_true p24
                                  replace q24 := eq_true q24
                                  go_wp2
                                  repeat (go_quiet (fail); try go_wp2)
                                  go_roundg k2
                                  case measure => have := HK1.out; have := HK2.out; omega
                                  case rel => exact ⟨(wrap64 (x5_1 + 1)), (by first | rfl | (simp; done) | (simp [*]; done)), H', ⟨by have := HK1.out; have := HK2.out; omega⟩, ⟨by (with_reducible repeat (first | apply Kd.R_alloc | apply Kd.R_drewN | apply Kd.R_drew)); first | exact HO_4.out | exact Kd.R_mono HO_4.out (fun _ _ => trivial)⟩, ⟨by repeat (first | (with_reducible first | exact HB.out | apply below_alloc | apply pw_below_drewN | apply below_drew1) | exact HB.out)⟩⟩
                                · rw [if_neg c25] at H
                                  exact absurd H (by simp)
                              · rw [if_neg c23] at H
                                exact absurd H (by simp)
                            · rw [if_neg c22] at H
                              exact absurd H (by simp)
                          · rw [if_neg c20] at H
                            have c20b0 : decide ((wrap64 (x5_1 + 1)) < (t157.length : Int)) = false := decide_eq_false c20
                            clear c20
                            have H' := Aside0.mk H
                            clear H
                            have p161 : 0 ≤ (x5_1 : Int) := of_decide_eq_true (by first | (with_reducible assumption) | assumption)
                            have q161 : x5_1 < (t157.length : Int) := of_decide_eq_true (by first | (with_reducible assumption) | assumption)
                            obtain ⟨ad161, e161, hx161_0⟩ := Kd.at_string (Kd.R_reads' HO_4.out).2.2 x5_1 p161 q161
                            obtain rfl : ad160 = ad161 := (by injection e161)
                            replace p161 := eq_true p161
                            replace q161 := eq_true q161
                            go_wp2
                            repeat (go_quiet (fail); try go_wp2)
                            go_roundg k2
                            case measure => have := HK1.out; have := HK2.out; omega
                            case rel => exact ⟨(wrap64 (x5_1 + 1)), (by first | rfl | (simp; done) | (simp [*]; done)), H', ⟨by have := HK1.out; have := HK2.out; omega⟩, ⟨by (with_reducible repeat (first | apply Kd.R_alloc | apply Kd.R_drewN | apply Kd.R_drew)); first | exact HO_4.out | exact Kd.R_mono HO_4.out (fun _ _ => trivial)⟩, ⟨by repeat (first | (with_reducible first | exact HB.out | apply below_alloc | apply pw_below_drewN | apply below_drew1) | exact HB.out)⟩⟩
                      · rw [if_neg c14] at H
                        exact absurd H (by simp)
                    · rw [if_neg c13] at H
                      exact absurd H (by simp)
            · rw [if_neg c10] at H
              exact absurd H (by simp)
          · rw [if_neg c9] at H
            have c9b0 : decide (x5_1 < (t157.length : Int)) = false := decide_eq_false c9
            clear c9
            replace H := Option.bind_eq_some_iff.mp H
            obtain ⟨t165, A260, H⟩ := H
            replace H : ((lines_Join.f t157).bind fun t166 => (if t166.toList = a0.toList then ((lines_Count.f a0).bind fun t167 => (if t167 = (t157.length : Int) then ((lines_Count.f t165).bind fun t168 => (if t168 = (t157.length : Int) then ((lines_Whole.f t165).bind fun t169 => (some (t169.toList == t165.toList))) else (none))) else (none))) else (none))) = some r := H
            have A26 := Aside0.mk A260
            clear A260
            replace H := Option.bind_eq_some_iff.mp H
            obtain ⟨t166, A270, H⟩ := H
            replace H : (if t166.toList = a0.toList then ((lines_Count.f a0).bind fun t167 => (if t167 = (t157.length : Int) then ((lines_Count.f t165).bind fun t168 => (if t168 = (t157.length : Int) then ((lines_Whole.f t165).bind fun t169 => (some (t169.toList == t165.toList))) else (none))) else (none))) else (none)) = some r := H
            have A27 := Aside0.mk A270
            clear A270
            by_cases c28 : t166.toList = a0.toList
            · rw [if_pos c28] at H
              have c28b0 : (t166.toList == a0.toList) = true := beq_iff_eq.mpr c28
              have c28b1 : (t166.toList != a0.toList) = false := bne_eq_false_iff_eq.mpr c28
              clear c28
              replace H := Option.bind_eq_some_iff.mp H
              obtain ⟨t167, A290, H⟩ := H
              replace H : (if t167 = (t157.length : Int) then ((lines_Count.f t165).bind fun t168 => (if t168 = (t157.length : Int) then ((lines_Whole.f t165).bind fun t169 => (some (t169.toList == t165.toList))) else (none))) else (none)) = some r := H
              have A29 := Aside0.mk A290
              clear A290
              by_cases c30 : t167 = (t157.length : Int)
              · rw [if_pos c30] at H
                have c30b0 : (t167 == (t157.length : Int)) = true := beq_iff_eq.mpr c30
                have c30b1 : (t167 != (t157.length : Int)) = false := bne_eq_false_iff_eq.mpr c30
                clear c30
                replace H := Option.bind_eq_some_iff.mp H
                obtain ⟨t168, A310, H⟩ := H
                replace H : (if t168 = (t157.length : Int) then ((lines_Whole.f t165).bind fun t169 => (some (t169.toList == t165.toList))) else (none)) = some r := H
                have A31 := Aside0.mk A310
                clear A310
                by_cases c32 : t168 = (t157.length : Int)
                · rw [if_pos c32] at H
                  have c32b0 : (t168 == (t157.length : Int)) = true := beq_iff_eq.mpr c32
                  have c32b1 : (t168 != (t157.length : Int)) = false := bne_eq_false_iff_eq.mpr c32
                  clear c32
                  replace H := Option.bind_eq_some_iff.mp H
                  obtain ⟨t169, A330, H⟩ := H
                  replace H : (some (t169.toList == t165.toList)) = some r := H
                  have A33 := Aside0.mk A330
                  clear A330
                  obtain rfl := Option.some.inj H
                  obtain ⟨Ao34, co34, eo34⟩ := Kd.R_slice HO_4.out
                  subst eo34
                  go_wp2_with (first | (go_at_call 15; (with_reducible refine (lines_Whole.calls a0 t165 _ A26.out).mono ?_); rintro e w' ⟨rfl, ⟨nd, rfl⟩⟩; (try first | exact ⟨rfl, _, World.drewN_drewN _ _ _⟩ | exact ⟨rfl, _, Eq.trans (World.drewN_drewN _ _ _) (congrArg (World.drewN _) (Nat.add_assoc _ _ _))⟩)) | (go_at_call 13; (with_reducible refine (lines_Join.calls _ _ t157 t166 _ ?side1 ?side2 A27.out).mono ?_); (case side1 => repeat (first | exact (Kd.R_reads' HO_4.out).2.2 | (with_reducible refine Kd.C_alloc ?_ _) | (with_reducible refine Kd.C_drewN ?_ _) | (with_reducible refine Kd.C_drew ?_))); (case side2 => exact (Kd.R_reads' HO_4.out).2.1); rintro e w35 ⟨rfl, hb⟩; have n0_ := Aside0.mk (Kd.R_below (by (with_reducible repeat (first | apply Kd.R_alloc | apply Kd.R_drewN | apply Kd.R_drew)); exact HO_4.out) hb); have n1_ := Aside0.mk (below_step (by repeat (first | (with_reducible first | exact HB.out | apply below_alloc | apply pw_below_drewN | apply below_drew1) | exact HB.out)) hb); clear HO_4; clear HB; have HO_4 := n0_; have HB := n1_; clear n0_ n1_; (try clear hb); (try clear hb2); (try clear hk); (try clear hi)) | (go_at_call 12; (with_reducible refine (lines_Count.calls a0 t167 _ A29.out).mono ?_); rintro e w' ⟨rfl, ⟨nd, rfl⟩⟩; (try first | exact ⟨rfl, _, World.drewN_drewN _ _ _⟩ | exact ⟨rfl, _, Eq.trans (World.drewN_drewN _ _ _) (congrArg (World.drewN _) (Nat.add_assoc _ _ _))⟩)) | (go_at_call 12; (with_reducible refine (lines_Count.calls t165 t168 _ A31.out).mono ?_); rintro e w' ⟨rfl, ⟨nd, rfl⟩⟩; (try first | exact ⟨rfl, _, World.drewN_drewN _ _ _⟩ | exact ⟨rfl, _, Eq.trans (World.drewN_drewN _ _ _) (congrArg (World.drewN _) (Nat.add_assoc _ _ _))⟩)) | (go_at_call 15; (with_reducible refine (lines_Whole.calls t165 t169 _ A33.out).mono ?_); rintro e w' ⟨rfl, ⟨nd, rfl⟩⟩; (try first | exact ⟨rfl, _, World.drewN_drewN _ _ _⟩ | exact ⟨rfl, _, Eq.trans (World.drewN_drewN _ _ _) (congrArg (World.drewN _) (Nat.add_assoc _ _ _))⟩)))
                  repeat (go_quiet (first | (go_at_call 15; (with_reducible refine (lines_Whole.calls a0 t165 _ A26.out).mono ?_); rintro e w' ⟨rfl, ⟨nd, rfl⟩⟩; (try first | exact ⟨rfl, _, World.drewN_drewN _ _ _⟩ | exact ⟨rfl, _, Eq.trans (World.drewN_drewN _ _ _) (congrArg (World.drewN _) (Nat.add_assoc _ _ _))⟩)) | (go_at_call 13; (with_reducible refine (lines_Join.calls _ _ t157 t166 _ ?side1 ?side2 A27.out).mono ?_); (case side1 => repeat (first | exact (Kd.R_reads' HO_4.out).2.2 | (with_reducible refine Kd.C_alloc ?_ _) | (with_reducible refine Kd.C_drewN ?_ _) | (with_reducible refine Kd.C_drew ?_))); (case side2 => exact (Kd.R_reads' HO_4.out).2.1); rintro e w35 ⟨rfl, hb⟩; have n0_ := Aside0.mk (Kd.R_below (by (with_reducible repeat (first | apply Kd.R_alloc | apply Kd.R_drewN | apply Kd.R_drew)); exact HO_4.out) hb); have n1_ := Aside0.mk (below_step (by repeat (first | (with_reducible first | exact HB.out | apply below_alloc | apply pw_below_drewN | apply below_drew1) | exact HB.out)) hb); clear HO_4; clear HB; have HO_4 := n0_; have HB := n1_; clear n0_ n1_; (try clear hb); (try clear hb2); (try clear hk); (try clear hi)) | (go_at_call 12; (with_reducible refine (lines_Count.calls a0 t167 _ A29.out).mono ?_); rintro e w' ⟨rfl, ⟨nd, rfl⟩⟩; (try first | exact ⟨rfl, _, World.drewN_drewN _ _ _⟩ | exact ⟨rfl, _, Eq.trans (World.drewN_drewN _ _ _) (congrArg (World.drewN _) (Nat.add_assoc _ _ _))⟩)) | (go_at_call 12; (with_reducible refine (lines_Count.calls t165 t168 _ A31.out).mono ?_); rintro e w' ⟨rfl, ⟨nd, rfl⟩⟩; (try first | exact ⟨rfl, _, World.drewN_drewN _ _ _⟩ | exact ⟨rfl, _, Eq.trans (World.drewN_drewN _ _ _) (congrArg (World.drewN _) (Nat.add_assoc _ _ _))⟩)) | (go_at_call 15; (with_reducible refine (lines_Whole.calls t165 t169 _ A33.out).mono ?_); rintro e w' ⟨rfl, ⟨nd, rfl⟩⟩; (try first | exact ⟨rfl, _, World.drewN_drewN _ _ _⟩ | exact ⟨rfl, _, Eq.trans (World.drewN_drewN _ _ _) (congrArg (World.drewN _) (Nat.add_assoc _ _ _))⟩))); try go_wp2_with (first | (go_at_call 15; (with_reducible refine (lines_Whole.calls a0 t165 _ A26.out).mono ?_); rintro e w' ⟨rfl, ⟨nd, rfl⟩⟩; (try first | exact ⟨rfl, _, World.drewN_drewN _ _ _⟩ | exact ⟨rfl, _, Eq.trans (World.drewN_drewN _ _ _) (congrArg (World.drewN _) (Nat.add_assoc _ _ _))⟩)) | (go_at_call 13; (with_reducible refine (lines_Join.calls _ _ t157 t166 _ ?side1 ?side2 A27.out).mono ?_); (case side1 => repeat (first | exact (Kd.R_reads' HO_4.out).2.2 | (with_reducible refine Kd.C_alloc ?_ _) | (with_reducible refine Kd.C_drewN ?_ _) | (with_reducible refine Kd.C_drew ?_))); (case side2 => exact (Kd.R_reads' HO_4.out).2.1); rintro e w35 ⟨rfl, hb⟩; have n0_ := Aside0.mk (Kd.R_below (by (with_reducible repeat (first | apply Kd.R_alloc | apply Kd.R_drewN | apply Kd.R_drew)); exact HO_4.out) hb); have n1_ := Aside0.mk (below_step (by repeat (first | (with_reducible first | exact HB.out | apply below_alloc | apply pw_below_drewN | apply below_drew1) | exact HB.out)) hb); clear HO_4; clear HB; have HO_4 := n0_; have HB := n1_; clear n0_ n1_; (try clear hb); (try clear hb2); (try clear hk); (try clear hi)) | (go_at_call 12; (with_reducible refine (lines_Count.calls a0 t167 _ A29.out).mono ?_); rintro e w' ⟨rfl, ⟨nd, rfl⟩⟩; (try first | exact ⟨rfl, _, World.drewN_drewN _ _ _⟩ | exact ⟨rfl, _, Eq.trans (World.drewN_drewN _ _ _) (congrArg (World.drewN _) (Nat.add_assoc _ _ _))⟩)) | (go_at_call 12; (with_reducible refine (lines_Count.calls t165 t168 _ A31.out).mono ?_); rintro e w' ⟨rfl, ⟨nd, rfl⟩⟩; (try first | exact ⟨rfl, _, World.drewN_drewN _ _ _⟩ | exact ⟨rfl, _, Eq.trans (World.drewN_drewN _ _ _) (congrArg (World.drewN _) (Nat.add_assoc _ _ _))⟩)) | (go_at_call 15; (with_reducible refine (lines_Whole.calls t165 t169 _ A33.out).mono ?_); rintro e w' ⟨rfl, ⟨nd, rfl⟩⟩; (try first | exact ⟨rfl, _, World.drewN_drewN _ _ _⟩ | exact ⟨rfl, _, Eq.trans (World.drewN_drewN _ _ _) (congrArg (World.drewN _) (Nat.add_assoc _ _ _))⟩))))
                  go_ret
                  exact ⟨by first | rfl | (simp [errW_none, errW_some] <;> rfl) | (simp [*, errW_none, errW_some] <;> rfl), by repeat (first | (with_reducible first | exact HB.out | apply below_alloc | apply pw_below_drewN | apply below_drew1) | exact HB.out)⟩
                · rw [if_neg c32] at H
                  exact absurd H (by simp)
              · rw [if_neg c30] at H
                exact absurd H (by simp)
            · rw [if_neg c28] at H
              exact absurd H (by simp)
  · replace c3 := Bool.eq_false_iff.mpr c3
    subst c3
    have H1 : (none) = some r := by rw [if_neg (show ¬ (false = true) by decide)] at H; exact H
    clear H
    have H := H1
    clear H1
    exact absurd H (by simp)

/-- THE ONE PURE STATEMENT of concordatlaw01_LinesBack: yours. -/
def concordatlaw01_LinesBack.Pure : Prop := ∀ (a0 : ByteArray), a0.size ≤ 140737488351232 → ∃ k, concordatlaw01_LinesBack.f k a0 = some true
theorem concordatlaw01_LinesBack.walk (P : concordatlaw01_LinesBack.Pure) (a0 : ByteArray) (w : World) (w0 : a0.size ≤ 140737488351232) :
    Calls Try.prog 5 #[.string a0] w fun e w' => e = .returned (.bool true) ∧ Below w.heap.size w w' := by
  obtain ⟨k, h⟩ := P a0 w0
  refine (concordatlaw01_LinesBack.calls k a0 true w h).mono ?_
  rintro e w' ⟨rfl, hd⟩
  exact ⟨rfl, hd⟩

/-! ### concordatlaw01_LinesForth: function 6 -/
mutual
def concordatlaw01_LinesForth.j0 : Nat → ByteArray → Int → Bool → Option (Bool)
  | 0, _, _, _ => none
  | k + 1, x0, x1, x28 => if x28 = true then ((lines_Place.f k x0 (-1)).bind fun bt171 => (if bt171.1 = 0 then (some (bt171.2 == 0)) else (none))) else ((lines_Place.f k x0 x1).bind fun bt173 => ((lines_Start.f x0 bt173.1).bind fun bt175 => (if bt175.2 = true then (if bt173.2 < 1 then (concordatlaw01_LinesForth.j1 k x0 x1 bt175.1 true) else (concordatlaw01_LinesForth.j1 k x0 x1 bt175.1 ((wrap64 ((wrap64 (bt175.1 + bt173.2)) - 1)) != x1))) else (concordatlaw01_LinesForth.j1 k x0 x1 bt175.1 true))))
def concordatlaw01_LinesForth.j1 : Nat → ByteArray → Int → Int → Bool → Option (Bool)
  | 0, _, _, _, _ => none
  | k + 1, x0, x1, x10, x65 => if x65 = true then (none) else (concordatlaw01_LinesForth.l0 k x0 x1 x10 x10)
def concordatlaw01_LinesForth.l0 : Nat → ByteArray → Int → Int → Int → Option (Bool)
  | 0, _, _, _, _ => none
  | k + 1, x0, x1, x10, x12 => if x12 < x1 then (if 0 ≤ x12 then (if x12 < (x0.size : Int) then (if (bt x0 x12) = 10 then (none) else (concordatlaw01_LinesForth.l0 k x0 x1 x10 (wrap64 (x12 + 1)))) else (none)) else (none)) else (if x10 = 0 then (some true) else (if 0 ≤ (wrap64 (x10 - 1)) then (if (wrap64 (x10 - 1)) < (x0.size : Int) then (some ((bt x0 (wrap64 (x10 - 1))) == 10)) else (none)) else (none)))
end
def concordatlaw01_LinesForth.f (k : Nat) (a0 : ByteArray) (a1 : Int) : Option (Bool) := (concordatlaw01_awake.f k).bind fun t170 => (if t170 = true then (if (a0.size : Int) > 5000 then (concordatlaw01_LinesForth.j0 k a0 a1 true) else (if a1 < 0 then (concordatlaw01_LinesForth.j0 k a0 a1 true) else (concordatlaw01_LinesForth.j0 k a0 a1 (decide (a1 > (a0.size : Int)))))) else (none))
theorem concordatlaw01_LinesForth.mono_l : ∀ k, (∀ y0 y1 y2, LeO (concordatlaw01_LinesForth.j0 k y0 y1 y2) (concordatlaw01_LinesForth.j0 (k + 1) y0 y1 y2)) ∧ (∀ y0 y1 y2 y3, LeO (concordatlaw01_LinesForth.j1 k y0 y1 y2 y3) (concordatlaw01_LinesForth.j1 (k + 1) y0 y1 y2 y3)) ∧ (∀ y0 y1 y2 y3, LeO (concordatlaw01_LinesForth.l0 k y0 y1 y2 y3) (concordatlaw01_LinesForth.l0 (k + 1) y0 y1 y2 y3))
  | 0 => ⟨fun _ _ _ r h => by simp [concordatlaw01_LinesForth.j0] at h, fun _ _ _ _ r h => by simp [concordatlaw01_LinesForth.j1] at h, fun _ _ _ _ r h => by simp [concordatlaw01_LinesForth.l0] at h⟩
  | k + 1 => by
    obtain ⟨ih0, ih1, ih2⟩ := concordatlaw01_LinesForth.mono_l k
    refine ⟨?_, ?_, ?_⟩
    · intro y0 y1 y2
      unfold concordatlaw01_LinesForth.j0
      repeat' first
      | (with_reducible exact ih0 _ _ _)
      | (with_reducible exact ih1 _ _ _ _)
      | (with_reducible exact ih2 _ _ _ _)
      | (with_reducible exact concordatlaw01_awake.mono _)
      | (with_reducible exact lines_Place.mono _ _ _)
      | (with_reducible exact LeO.refl _)
      | (with_reducible exact LeO.none _)
      | (with_reducible refine LeO.ite ?_ ?_)
      | (with_reducible refine LeO.bind ?_ (fun _ => ?_))
      | exact ih0 _ _ _
      | exact ih1 _ _ _ _
      | exact ih2 _ _ _ _
      | exact concordatlaw01_awake.mono _
      | exact lines_Place.mono _ _ _
      | exact LeO.none _
      | refine LeO.ite ?_ ?_
      | refine LeO.bind ?_ (fun _ => ?_)
    · intro y0 y1 y2 y3
      unfold concordatlaw01_LinesForth.j1
      repeat' first
      | (with_reducible exact ih0 _ _ _)
      | (with_reducible exact ih1 _ _ _ _)
      | (with_reducible exact ih2 _ _ _ _)
      | (with_reducible exact concordatlaw01_awake.mono _)
      | (with_reducible exact lines_Place.mono _ _ _)
      | (with_reducible exact LeO.refl _)
      | (with_reducible exact LeO.none _)
      | (with_reducible refine LeO.ite ?_ ?_)
      | (with_reducible refine LeO.bind ?_ (fun _ => ?_))
      | exact ih0 _ _ _
      | exact ih1 _ _ _ _
      | exact ih2 _ _ _ _
      | exact concordatlaw01_awake.mono _
      | exact lines_Place.mono _ _ _
      | exact LeO.none _
      | refine LeO.ite ?_ ?_
      | refine LeO.bind ?_ (fun _ => ?_)
    · intro y0 y1 y2 y3
      unfold concordatlaw01_LinesForth.l0
      repeat' first
      | (with_reducible exact ih0 _ _ _)
      | (with_reducible exact ih1 _ _ _ _)
      | (with_reducible exact ih2 _ _ _ _)
      | (with_reducible exact concordatlaw01_awake.mono _)
      | (with_reducible exact lines_Place.mono _ _ _)
      | (with_reducible exact LeO.refl _)
      | (with_reducible exact LeO.none _)
      | (with_reducible refine LeO.ite ?_ ?_)
      | (with_reducible refine LeO.bind ?_ (fun _ => ?_))
      | exact ih0 _ _ _
      | exact ih1 _ _ _ _
      | exact ih2 _ _ _ _
      | exact concordatlaw01_awake.mono _
      | exact lines_Place.mono _ _ _
      | exact LeO.none _
      | refine LeO.ite ?_ ?_
      | refine LeO.bind ?_ (fun _ => ?_)
theorem concordatlaw01_LinesForth.mono : ∀ a0 a1 k, LeO (concordatlaw01_LinesForth.f k a0 a1) (concordatlaw01_LinesForth.f (k + 1) a0 a1) := by
  intro a0 a1 k
  obtain ⟨ih0, ih1, ih2⟩ := concordatlaw01_LinesForth.mono_l k
  unfold concordatlaw01_LinesForth.f
  repeat' first
      | (with_reducible exact ih0 _ _ _)
      | (with_reducible exact ih1 _ _ _ _)
      | (with_reducible exact ih2 _ _ _ _)
      | (with_reducible exact concordatlaw01_awake.mono _)
      | (with_reducible exact lines_Place.mono _ _ _)
      | (with_reducible exact LeO.refl _)
      | (with_reducible exact LeO.none _)
      | (with_reducible refine LeO.ite ?_ ?_)
      | (with_reducible refine LeO.bind ?_ (fun _ => ?_))
      | exact ih0 _ _ _
      | exact ih1 _ _ _ _
      | exact ih2 _ _ _ _
      | exact concordatlaw01_awake.mono _
      | exact lines_Place.mono _ _ _
      | exact LeO.none _
      | refine LeO.ite ?_ ?_
      | refine LeO.bind ?_ (fun _ => ?_)
set_option maxHeartbeats 8000000 in
set_option maxRecDepth 100000 in
theorem concordatlaw01_LinesForth.calls (k : Nat) (a0 : ByteArray) (a1 : Int) (r : Bool) (w : World) (h : concordatlaw01_LinesForth.f k a0 a1 = some r) :
    Calls Try.prog 6 #[.string a0, .int .i64 a1] w fun e w' => e = .returned (.bool r) ∧ Below w.heap.size w w' := by
  have HB := Aside0.mk (Below.refl w.heap.size w)
  have H : ((concordatlaw01_awake.f k).bind fun t170 => (if t170 = true then (if (a0.size : Int) > 5000 then (concordatlaw01_LinesForth.j0 k a0 a1 true) else (if a1 < 0 then (concordatlaw01_LinesForth.j0 k a0 a1 true) else (concordatlaw01_LinesForth.j0 k a0 a1 (decide (a1 > (a0.size : Int)))))) else (none))) = some r := h
  clear h
  replace H := Option.bind_eq_some_iff.mp H
  obtain ⟨t170, A30, H⟩ := H
  replace H : (if t170 = true then (if (a0.size : Int) > 5000 then (concordatlaw01_LinesForth.j0 k a0 a1 true) else (if a1 < 0 then (concordatlaw01_LinesForth.j0 k a0 a1 true) else (concordatlaw01_LinesForth.j0 k a0 a1 (decide (a1 > (a0.size : Int)))))) else (none)) = some r := H
  have A3 := Aside0.mk A30
  clear A30
  by_cases c4 : t170 = true
  · subst c4
    have H1 : (if (a0.size : Int) > 5000 then (concordatlaw01_LinesForth.j0 k a0 a1 true) else (if a1 < 0 then (concordatlaw01_LinesForth.j0 k a0 a1 true) else (concordatlaw01_LinesForth.j0 k a0 a1 (decide (a1 > (a0.size : Int)))))) = some r := by rw [if_pos rfl] at H; exact H
    clear H
    have H := H1
    clear H1
    have HC5 := Aside0.mk H
    clear H
    go_enter Try.func6, Try.ntmps6
    go_upto_region 4 with (first | ((with_reducible refine gate_callee (f := 8) rfl ?_); refine goesL_ (some 13) rfl rfl Try.func8 (by kernel_rfl) rfl #[] rfl (by (try simp only [List.map_toArray, List.map_cons, List.map_nil]); first | done | rfl | (simp only [List.length_drop, List.length_take]; rfl)) ?_; (with_reducible refine (concordatlaw01_awake.calls k  true _ A3.out).mono ?_); rintro e w6 ⟨rfl, hb⟩; refine ⟨_, rfl, ?_⟩; have n0_ := Aside0.mk (below_step (by repeat (first | (with_reducible first | exact HB.out | apply below_alloc | apply pw_below_drewN | apply below_drew1) | exact HB.out)) hb); clear HB; have HB := n0_; clear n0_; (try clear hb); (try clear hb2); (try clear hk); (try clear hi)))
    (try simp only [Act.put, List.setIfInBounds_toArray, List.set_cons_zero, List.set_cons_succ])
    go_cut [28] (fun v28 wc => ∃ (kq : Nat) (x28_4 : Bool), v28 = .bool x28_4 ∧ Aside0 (concordatlaw01_LinesForth.j0 kq a0 a1 x28_4 = some r) ∧ Aside0 (kq ≤ k) ∧ Aside0 (Below w.heap.size w wc))
    case first =>
      have H := HC5.out
      clear HC5
      by_cases c7 : (a0.size : Int) > 5000
      · rw [if_pos c7] at H
        have c7b0 : decide (5000 < (a0.size : Int)) = true := decide_eq_true c7
        have c7b1 : decide (5000 < a0.size) = true := decide_eq_true (by omega)
        clear c7
        (first | rw [c7b0] | (simp only [i64_w, i32_w]; rw [c7b0]) | skip)
        have H' := Aside0.mk H
        clear H
        go_wp2
        go_meet
        case rel => exact ⟨_, (true), (by first | rfl | (simp; done) | (simp [*]; done)), H', ⟨by first | omega | exact Nat.le_refl _⟩, ⟨by repeat (first | (with_reducible first | exact HB.out | apply below_alloc | apply pw_below_drewN | apply below_drew1) | exact HB.out)⟩⟩
      · rw [if_neg c7] at H
        have c7b0 : decide (5000 < (a0.size : Int)) = false := decide_eq_false c7
        have c7b1 : decide (5000 < a0.size) = false := decide_eq_false (by omega)
        clear c7
        (first | rw [c7b0] | (simp only [i64_w, i32_w]; rw [c7b0]) | skip)
        by_cases c8 : a1 < 0
        · rw [if_pos c8] at H
          have c8b0 : decide (a1 < 0) = true := decide_eq_true c8
          clear c8
          have H' := Aside0.mk H
          clear H
          go_wp2
          go_meet
          case rel => exact ⟨_, (true), (by first | rfl | (simp; done) | (simp [*]; done)), H', ⟨by first | omega | exact Nat.le_refl _⟩, ⟨by repeat (first | (with_reducible first | exact HB.out | apply below_alloc | apply pw_below_drewN | apply below_drew1) | exact HB.out)⟩⟩
        · rw [if_neg c8] at H
          have c8b0 : decide (a1 < 0) = false := decide_eq_false c8
          clear c8
          have H' := Aside0.mk H
          clear H
          go_wp2
          go_meet
          case rel => exact ⟨_, (decide (a1 > (a0.size : Int))), (by first | rfl | (simp; done) | (simp [*]; done)), H', ⟨by first | omega | exact Nat.le_refl _⟩, ⟨by repeat (first | (with_reducible first | exact HB.out | apply below_alloc | apply pw_below_drewN | apply below_drew1) | exact HB.out)⟩⟩
    case rest =>
      clear HC5
      try clear p2
      try clear c4
      try clear c6
      try clear c7
      try clear c7b0
      try clear c7b1
      try clear c8
      try clear c8b0
      obtain ⟨kq, x28_4, rfl, HA, HJ4, HB⟩ := hcut
      cases kq with
      | zero => exact absurd HA.out (by simp [concordatlaw01_LinesForth.j0])
      | succ kj4 =>
        have H := HA.out
        clear HA
        simp only [concordatlaw01_LinesForth.j0] at H
        by_cases c9 : x28_4 = true
        · subst c9
          have H1 : ((lines_Place.f kj4 a0 (-1)).bind fun bt171 => (if bt171.1 = 0 then (some (bt171.2 == 0)) else (none))) = some r := by rw [if_pos rfl] at H; exact H
          clear H
          have H := H1
          clear H1
          replace H := Option.bind_eq_some_iff.mp H
          obtain ⟨⟨t171, t172⟩, A100, H⟩ := H
          replace H : (if t171 = 0 then (some (t172 == 0)) else (none)) = some r := H
          have A10 := Aside0.mk A100
          clear A100
          by_cases c11 : t171 = 0
          · rw [if_pos c11] at H
            have c11b0 : (t171 == 0) = true := beq_iff_eq.mpr c11
            have c11b1 : (t171 != 0) = false := bne_eq_false_iff_eq.mpr c11
            clear c11
            obtain rfl := Option.some.inj H
            go_wp2_with (first | ((with_reducible refine gate_callee (f := 17) rfl ?_); refine goesL_ (some 31) rfl rfl Try.func17 (by kernel_rfl) rfl #[.string a0, .int .i64 (-1)] rfl (by (try simp only [List.map_toArray, List.map_cons, List.map_nil]); first | done | rfl | (simp only [List.length_drop, List.length_take]; rfl)) ?_; (with_reducible refine (lines_Place.calls kj4 a0 (-1) t171 t172 _ A10.out).mono ?_); rintro e w' ⟨rfl, ⟨nd, rfl⟩⟩; refine ⟨_, rfl, ?_⟩))
            go_ret
            exact ⟨by first | rfl | (simp [errW_none, errW_some] <;> rfl) | (simp [*, errW_none, errW_some] <;> rfl), by repeat (first | (with_reducible first | exact HB.out | apply below_alloc | apply pw_below_drewN | apply below_drew1) | exact HB.out)⟩
          · rw [if_neg c11] at H
            exact absurd H (by simp)
        · replace c9 := Bool.eq_false_iff.mpr c9
          subst c9
          have H1 : ((lines_Place.f kj4 a0 a1).bind fun bt173 => ((lines_Start.f a0 bt173.1).bind fun bt175 => (if bt175.2 = true then (if bt173.2 < 1 then (concordatlaw01_LinesForth.j1 kj4 a0 a1 bt175.1 true) else (concordatlaw01_LinesForth.j1 kj4 a0 a1 bt175.1 ((wrap64 ((wrap64 (bt175.1 + bt173.2)) - 1)) != a1))) else (concordatlaw01_LinesForth.j1 kj4 a0 a1 bt175.1 true)))) = some r := by rw [if_neg (show ¬ (false = true) by decide)] at H; exact H
          clear H
          have H := H1
          clear H1
          replace H := Option.bind_eq_some_iff.mp H
          obtain ⟨⟨t173, t174⟩, A120, H⟩ := H
          replace H : ((lines_Start.f a0 t173).bind fun bt175 => (if bt175.2 = true then (if t174 < 1 then (concordatlaw01_LinesForth.j1 kj4 a0 a1 bt175.1 true) else (concordatlaw01_LinesForth.j1 kj4 a0 a1 bt175.1 ((wrap64 ((wrap64 (bt175.1 + t174)) - 1)) != a1))) else (concordatlaw01_LinesForth.j1 kj4 a0 a1 bt175.1 true))) = some r := H
          have A12 := Aside0.mk A120
          clear A120
          replace H := Option.bind_eq_some_iff.mp H
          obtain ⟨⟨t175, t176⟩, A130, H⟩ := H
          replace H : (if t176 = true then (if t174 < 1 then (concordatlaw01_LinesForth.j1 kj4 a0 a1 t175 true) else (concordatlaw01_LinesForth.j1 kj4 a0 a1 t175 ((wrap64 ((wrap64 (t175 + t174)) - 1)) != a1))) else (concordatlaw01_LinesForth.j1 kj4 a0 a1 t175 true)) = some r := H
          have A13 := Aside0.mk A130
          clear A130
          have HC14 := Aside0.mk H
          clear H
          go_upto_region 9 with (first | ((with_reducible refine gate_callee (f := 17) rfl ?_); refine goesL_ (some 43) rfl rfl Try.func17 (by kernel_rfl) rfl #[.string a0, .int .i64 a1] rfl (by (try simp only [List.map_toArray, List.map_cons, List.map_nil]); first | done | rfl | (simp only [List.length_drop, List.length_take]; rfl)) ?_; (with_reducible refine (lines_Place.calls kj4 a0 a1 t173 t174 _ A12.out).mono ?_); rintro e w' ⟨rfl, ⟨nd, rfl⟩⟩; refine ⟨_, rfl, ?_⟩) | ((with_reducible refine gate_callee (f := 19) rfl ?_); refine goesL_ (some 49) rfl rfl Try.func19 (by kernel_rfl) rfl #[.string a0, .int .i64 t173] rfl (by (try simp only [List.map_toArray, List.map_cons, List.map_nil]); first | done | rfl | (simp only [List.length_drop, List.length_take]; rfl)) ?_; (with_reducible refine (lines_Start.calls a0 t173 t175 t176 _ A13.out).mono ?_); rintro e w15 ⟨rfl, hb⟩; refine ⟨_, rfl, ?_⟩; have n0_ := Aside0.mk (below_step (by repeat (first | (with_reducible first | exact HB.out | apply below_alloc | apply pw_below_drewN | apply below_drew1) | exact HB.out)) hb); clear HB; have HB := n0_; clear n0_; (try clear hb); (try clear hb2); (try clear hk); (try clear hi)))
          (try simp only [Act.put, List.setIfInBounds_toArray, List.set_cons_zero, List.set_cons_succ])
          go_cut [65] (fun v65 wc => ∃ (kq : Nat) (x65_13 : Bool), v65 = .bool x65_13 ∧ Aside0 (concordatlaw01_LinesForth.j1 kq a0 a1 t175 x65_13 = some r) ∧ Aside0 (kq ≤ kj4) ∧ Aside0 (Below w.heap.size w wc))
          case first =>
            have H := HC14.out
            clear HC14
            by_cases c16 : t176 = true
            · subst c16
              have H1 : (if t174 < 1 then (concordatlaw01_LinesForth.j1 kj4 a0 a1 t175 true) else (concordatlaw01_LinesForth.j1 kj4 a0 a1 t175 ((wrap64 ((wrap64 (t175 + t174)) - 1)) != a1))) = some r := by rw [if_pos rfl] at H; exact H
              clear H
              have H := H1
              clear H1
              by_cases c17 : t174 < 1
              · rw [if_pos c17] at H
                have c17b0 : decide (t174 < 1) = true := decide_eq_true c17
                clear c17
                (first | rw [c17b0] | (simp only [i64_w, i32_w]; rw [c17b0]) | skip)
                have H' := Aside0.mk H
                clear H
                go_wp2
                go_meet
                case rel => exact ⟨_, (true), (by first | rfl | (simp; done) | (simp [*]; done)), H', ⟨by have := HJ4.out; first | omega | exact Nat.le_refl _⟩, ⟨by repeat (first | (with_reducible first | exact HB.out | apply below_alloc | apply pw_below_drewN | apply below_drew1) | exact HB.out)⟩⟩
              · rw [if_neg c17] at H
                have c17b0 : decide (t174 < 1) = false := decide_eq_false c17
                clear c17
                (first | rw [c17b0] | (simp only [i64_w, i32_w]; rw [c17b0]) | skip)
                have H' := Aside0.mk H
                clear H
                go_wp2
                go_meet
                case rel => exact ⟨_, (((wrap64 ((wrap64 (t175 + t174)) - 1)) != a1)), (by first | rfl | (simp; done) | (simp [*]; done)), H', ⟨by have := HJ4.out; first | omega | exact Nat.le_refl _⟩, ⟨by repeat (first | (with_reducible first | exact HB.out | apply below_alloc | apply pw_below_drewN | apply below_drew1) | exact HB.out)⟩⟩
            · replace c16 := Bool.eq_false_iff.mpr c16
              subst c16
              have H1 : (concordatlaw01_LinesForth.j1 kj4 a0 a1 t175 true) = some r := by rw [if_neg (show ¬ (false = true) by decide)] at H; exact H
              clear H
              have H := H1
              clear H1
              have H' := Aside0.mk H
              clear H
              go_wp2
              go_meet
              case rel => exact ⟨_, (true), (by first | rfl | (simp; done) | (simp [*]; done)), H', ⟨by have := HJ4.out; first | omega | exact Nat.le_refl _⟩, ⟨by repeat (first | (with_reducible first | exact HB.out | apply below_alloc | apply pw_below_drewN | apply below_drew1) | exact HB.out)⟩⟩
          case rest =>
            clear HC14
            try clear c1
            try clear p2
            try clear c4
            try clear c6
            try clear p6
            try clear c7
            try clear c7b0
            try clear c7b1
            try clear c8
            try clear c8b0
            try clear c9
            try clear c11
            try clear c11b0
            try clear c11b1
            try clear c16
            try clear c17
            try clear c17b0
            try clear p2
            obtain ⟨kq, x65_13, rfl, HA, HJ13, HB⟩ := hcut
            cases kq with
            | zero => exact absurd HA.out (by simp [concordatlaw01_LinesForth.j1])
            | succ kj13 =>
              have H := HA.out
              clear HA
              simp only [concordatlaw01_LinesForth.j1] at H
              by_cases c18 : x65_13 = true
              · subst c18
                have H1 : (none) = some r := by rw [if_pos rfl] at H; exact H
                clear H
                have H := H1
                clear H1
                exact absurd H (by simp)
              · replace c18 := Bool.eq_false_iff.mpr c18
                subst c18
                have H1 : (concordatlaw01_LinesForth.l0 kj13 a0 a1 t175 t175) = some r := by rw [if_neg (show ¬ (false = true) by decide)] at H; exact H
                clear H
                have H := H1
                clear H1
                have H' := Aside0.mk H
                clear H
                go_wp2
                go_loopg [12] kj13 (fun kq v12 w' => ∃ (x12_3 : Int), v12 = .int .i64 x12_3 ∧ Aside0 (concordatlaw01_LinesForth.l0 kq a0 a1 t175 x12_3 = some r) ∧ Aside0 (kq ≤ kj13) ∧ Aside0 (Below w.heap.size w w'))
                case atStart => exact ⟨(t175), (by first | rfl | (simp; done) | (simp [*]; done)), H', ⟨Nat.le_refl _⟩, ⟨by repeat (first | (with_reducible first | exact HB.out | apply below_alloc | apply pw_below_drewN | apply below_drew1) | exact HB.out)⟩⟩
                case round =>
                  clear H'
                  try clear c1
                  try clear p2
                  try clear c4
                  try clear c6
                  try clear p6
                  try clear c7
                  try clear c7b0
                  try clear c7b1
                  try clear c8
                  try clear c8b0
                  try clear c9
                  try clear c11
                  try clear c11b0
                  try clear c11b1
                  try clear c16
                  try clear c17
                  try clear c17b0
                  try clear c18
                  try clear p2
                  try clear p6
                  obtain ⟨x12_3, rfl, HA, HK3, HB⟩ := hrel
                  cases gk with
                  | zero => exact absurd HA.out (by simp [concordatlaw01_LinesForth.l0])
                  | succ k3 =>
                    have H := HA.out
                    clear HA
                    simp only [concordatlaw01_LinesForth.l0] at H
                    by_cases c19 : x12_3 < a1
                    · rw [if_pos c19] at H
                      have c19b0 : decide (x12_3 < a1) = true := decide_eq_true c19
                      clear c19
                      by_cases c20 : 0 ≤ x12_3
                      · rw [if_pos c20] at H
                        have c20b0 : decide (0 ≤ x12_3) = true := decide_eq_true c20
                        clear c20
                        by_cases c21 : x12_3 < (a0.size : Int)
                        · rw [if_pos c21] at H
                          have c21b0 : decide (x12_3 < (a0.size : Int)) = true := decide_eq_true c21
                          clear c21
                          by_cases c23 : (bt a0 x12_3) = 10
                          · rw [if_pos c23] at H
                            exact absurd H (by simp)
                          · rw [if_neg c23] at H
                            have c23b0 : ((bt a0 x12_3) == 10) = false := beq_eq_false_iff_ne.mpr c23
                            have c23b1 : ((bt a0 x12_3) != 10) = true := bne_iff_ne.mpr c23
                            have H' := Aside0.mk H
                            clear H
                            have p22 : 0 ≤ (x12_3 : Int) := of_decide_eq_true (by first | (with_reducible assumption) | assumption)
                            have q22 : x12_3 < (a0.size : Int) := of_decide_eq_true (by first | (with_reducible assumption) | assumption)
                            have hx22 := bt_at a0 x12_3
                            replace p22 := eq_true p22
                            replace q22 := eq_true q22
                            go_wp2
                            go_roundg k3
                            case measure => have := HJ4.out; have := HJ13.out; have := HK3.out; omega
                            case rel => exact ⟨(wrap64 (x12_3 + 1)), (by first | rfl | (simp; done) | (simp [*]; done)), H', ⟨by have := HJ4.out; have := HJ13.out; have := HK3.out; omega⟩, ⟨by repeat (first | (with_reducible first | exact HB.out | apply below_alloc | apply pw_below_drewN | apply below_drew1) | exact HB.out)⟩⟩
                        · rw [if_neg c21] at H
                          exact absurd H (by simp)
                      · rw [if_neg c20] at H
                        exact absurd H (by simp)
                    · rw [if_neg c19] at H
                      have c19b0 : decide (x12_3 < a1) = false := decide_eq_false c19
                      clear c19
                      by_cases c24 : t175 = 0
                      · rw [if_pos c24] at H
                        have c24b0 : (t175 == 0) = true := beq_iff_eq.mpr c24
                        have c24b1 : (t175 != 0) = false := bne_eq_false_iff_eq.mpr c24
                        clear c24
                        obtain rfl := Option.some.inj H
                        go_wp2
                        go_ret
                        exact ⟨by first | rfl | (simp [errW_none, errW_some] <;> rfl) | (simp [*, errW_none, errW_some] <;> rfl), by repeat (first | (with_reducible first | exact HB.out | apply below_alloc | apply pw_below_drewN | apply below_drew1) | exact HB.out)⟩
                      · rw [if_neg c24] at H
                        have c24b0 : (t175 == 0) = false := beq_eq_false_iff_ne.mpr c24
                        have c24b1 : (t175 != 0) = true := bne_iff_ne.mpr c24
                        obtain ⟨ji25, hji25⟩ : ∃ j_ : Int, (wrap64 (t175 - 1)) = j_ := ⟨_, rfl⟩
                        replace H : (if 0 ≤ (ji25) then (if (ji25) < (a0.size : Int) then (some ((bt a0 (ji25)) == 10)) else (none)) else (none)) = some r := by first | (rw [hji25] at H; exact H) | (simp only [hji25] at H ⊢; exact H)
                        have hji25w : (IntKind.i64.wrap (t175 - 1)) = ji25 := (i64_w _).trans hji25
                        by_cases c26 : 0 ≤ (ji25)
                        · rw [if_pos c26] at H
                          have c26b0 : decide (0 ≤ (ji25)) = true := decide_eq_true c26
                          clear c26
                          by_cases c27 : (ji25) < (a0.size : Int)
                          · rw [if_pos c27] at H
                            have c27b0 : decide ((ji25) < (a0.size : Int)) = true := decide_eq_true c27
                            clear c27
                            obtain rfl := Option.some.inj H
                            have p28 : 0 ≤ ((ji25) : Int) := of_decide_eq_true (by first | (with_reducible assumption) | assumption)
                            have q28 : (ji25) < (a0.size : Int) := of_decide_eq_true (by first | (with_reducible assumption) | assumption)
                            have hx28 := bt_at a0 (ji25)
                            replace p28 := eq_true p28
                            replace q28 := eq_true q28
                            go_wp2
                            go_ret
                            exact ⟨by first | rfl | (simp [errW_none, errW_some] <;> rfl) | (simp only [← hji25]; first | rfl | (simp [errW_none, errW_some] <;> rfl)) | (simp [*, errW_none, errW_some] <;> rfl), by repeat (first | (with_reducible first | exact HB.out | apply below_alloc | apply pw_below_drewN | apply below_drew1) | exact HB.out)⟩
                          · rw [if_neg c27] at H
                            exact absurd H (by simp)
                        · rw [if_neg c26] at H
                          exact absurd H (by simp)
  · replace c4 := Bool.eq_false_iff.mpr c4
    subst c4
    have H1 : (none) = some r := by rw [if_neg (show ¬ (false = true) by decide)] at H; exact H
    clear H
    have H := H1
    clear H1
    exact absurd H (by simp)

/-- THE ONE PURE STATEMENT of concordatlaw01_LinesForth: yours. -/
def concordatlaw01_LinesForth.Pure : Prop := ∀ (a0 : ByteArray) (a1 : Int), a0.size ≤ 140737488351232 → (Lit.int .i64 a1).wf = true → ∃ k, concordatlaw01_LinesForth.f k a0 a1 = some true
theorem concordatlaw01_LinesForth.walk (P : concordatlaw01_LinesForth.Pure) (a0 : ByteArray) (a1 : Int) (w : World) (w0 : a0.size ≤ 140737488351232) (w1 : (Lit.int .i64 a1).wf = true) :
    Calls Try.prog 6 #[.string a0, .int .i64 a1] w fun e w' => e = .returned (.bool true) ∧ Below w.heap.size w w' := by
  obtain ⟨k, h⟩ := P a0 a1 w0 w1
  refine (concordatlaw01_LinesForth.calls k a0 a1 true w h).mono ?_
  rintro e w' ⟨rfl, hd⟩
  exact ⟨rfl, hd⟩

end Go.Proofs.Ythgmnnlnggalgaa.PLines
