/- Laid by a program of this session out of the seat's translation. -/
import Derived.Test.YtjbgdoapbehopaaPLcsLongestx0
import Derived.Test.YtjbgdoapbehopaaPLcsLongestx4
import Derived.Test.YtjbgdoapbehopaaPLcsLongestx5
namespace Go.Proofs.Ytjbgdoapbehopaa.PLcsLongest
open Go.RowKit Go.Proofs.YtjbgdoapbehopaaW.PrintWords Go.Proofs.YtjbgdoapbehopaaW.PrintLast Go.Proofs.YtjbgdoapbehopaaW.PrintMore
attribute [local go_sem] max2_int min2_int max_two min_two max_three min_three max_four min_four   -- for this text's walks alone
set_option linter.unusedVariables false
set_option linter.unusedSimpArgs false

/-! ### concordatlaw05_LcsLongest: function 7 -/
mutual
def concordatlaw05_LcsLongest.j0 : Nat → List Int → List Int → List Int → Bool → Option (Bool)
  | 0, _, _, _, _ => none
  | k + 1, x0, x1, x2, x29 => if x29 = true then (some true) else (concordatlaw05_LcsLongest.l0 k x0 x1 x2 ([] : List Int) 0)
def concordatlaw05_LcsLongest.l0 : Nat → List Int → List Int → List Int → List Int → Int → Option (Bool)
  | 0, _, _, _, _, _ => none
  | k + 1, x0, x1, x2, x8, x9 => if x9 < (x0.length : Int) then (concordatlaw05_LcsLongest.l1 k x0 x1 x2 x8 x9 false 0) else ((lcs_Length.f k x0 x1).bind fun t230 => ((lcs_Length.f k x8 x1).bind fun t231 => ((lcs_Length.f k x8 x0).bind fun t232 => (if t232 = (x8.length : Int) then (if t231 ≤ t230 then (if (wrap64 (t230 - t231)) ≤ (wrap64 ((x0.length : Int) - (x8.length : Int))) then (some (decide (t230 ≤ (mn (x0.length : Int) (x1.length : Int))))) else (none)) else (none)) else (none)))))
def concordatlaw05_LcsLongest.l1 : Nat → List Int → List Int → List Int → List Int → Int → Bool → Int → Option (Bool)
  | 0, _, _, _, _, _, _, _ => none
  | k + 1, x0, x1, x2, x8, x9, x10, x11 => if x11 < (x2.length : Int) then (if x10 = true then (concordatlaw05_LcsLongest.l1 k x0 x1 x2 x8 x9 true (wrap64 (x11 + 1))) else (if 0 ≤ x11 then (concordatlaw05_LcsLongest.l1 k x0 x1 x2 x8 x9 ((rd x2 x11) == x9) (wrap64 (x11 + 1))) else (none))) else (if x10 = true then (concordatlaw05_LcsLongest.l0 k x0 x1 x2 x8 (wrap64 (x9 + 1))) else (if 0 ≤ x9 then (if x9 < (x0.length : Int) then (if x8.length < 17592186044416 then (concordatlaw05_LcsLongest.l0 k x0 x1 x2 (x8 ++ [rd x0 x9]) (wrap64 (x9 + 1))) else (none)) else (none)) else (none)))
end
def concordatlaw05_LcsLongest.f (k : Nat) (l0 : List Int) (l1 : List Int) (l2 : List Int) : Option (Bool) := (concordatlaw05_awake.f k).bind fun t229 => (if t229 = true then (if (l0.length : Int) > 200 then (concordatlaw05_LcsLongest.j0 k l0 l1 l2 true) else (if (l1.length : Int) > 200 then (concordatlaw05_LcsLongest.j0 k l0 l1 l2 true) else (concordatlaw05_LcsLongest.j0 k l0 l1 l2 (decide ((l2.length : Int) > 100))))) else (none))
theorem concordatlaw05_LcsLongest.mono_l : ∀ k, (∀ y0 y1 y2 y3, LeO (concordatlaw05_LcsLongest.j0 k y0 y1 y2 y3) (concordatlaw05_LcsLongest.j0 (k + 1) y0 y1 y2 y3)) ∧ (∀ y0 y1 y2 y3 y4, LeO (concordatlaw05_LcsLongest.l0 k y0 y1 y2 y3 y4) (concordatlaw05_LcsLongest.l0 (k + 1) y0 y1 y2 y3 y4)) ∧ (∀ y0 y1 y2 y3 y4 y5 y6, LeO (concordatlaw05_LcsLongest.l1 k y0 y1 y2 y3 y4 y5 y6) (concordatlaw05_LcsLongest.l1 (k + 1) y0 y1 y2 y3 y4 y5 y6))
  | 0 => ⟨fun _ _ _ _ r h => by simp [concordatlaw05_LcsLongest.j0] at h, fun _ _ _ _ _ r h => by simp [concordatlaw05_LcsLongest.l0] at h, fun _ _ _ _ _ _ _ r h => by simp [concordatlaw05_LcsLongest.l1] at h⟩
  | k + 1 => by
    obtain ⟨ih0, ih1, ih2⟩ := concordatlaw05_LcsLongest.mono_l k
    refine ⟨?_, ?_, ?_⟩
    · intro y0 y1 y2 y3
      unfold concordatlaw05_LcsLongest.j0
      repeat' first
      | (with_reducible exact ih0 _ _ _ _)
      | (with_reducible exact ih1 _ _ _ _ _)
      | (with_reducible exact ih2 _ _ _ _ _ _ _)
      | (with_reducible exact concordatlaw05_awake.mono _)
      | (with_reducible exact lcs_Length.mono _ _ _)
      | (with_reducible exact LeO.refl _)
      | (with_reducible exact LeO.none _)
      | (with_reducible refine LeO.ite ?_ ?_)
      | (with_reducible refine LeO.bind ?_ (fun _ => ?_))
      | exact ih0 _ _ _ _
      | exact ih1 _ _ _ _ _
      | exact ih2 _ _ _ _ _ _ _
      | exact concordatlaw05_awake.mono _
      | exact lcs_Length.mono _ _ _
      | exact LeO.none _
      | refine LeO.ite ?_ ?_
      | refine LeO.bind ?_ (fun _ => ?_)
    · intro y0 y1 y2 y3 y4
      unfold concordatlaw05_LcsLongest.l0
      repeat' first
      | (with_reducible exact ih0 _ _ _ _)
      | (with_reducible exact ih1 _ _ _ _ _)
      | (with_reducible exact ih2 _ _ _ _ _ _ _)
      | (with_reducible exact concordatlaw05_awake.mono _)
      | (with_reducible exact lcs_Length.mono _ _ _)
      | (with_reducible exact LeO.refl _)
      | (with_reducible exact LeO.none _)
      | (with_reducible refine LeO.ite ?_ ?_)
      | (with_reducible refine LeO.bind ?_ (fun _ => ?_))
      | exact ih0 _ _ _ _
      | exact ih1 _ _ _ _ _
      | exact ih2 _ _ _ _ _ _ _
      | exact concordatlaw05_awake.mono _
      | exact lcs_Length.mono _ _ _
      | exact LeO.none _
      | refine LeO.ite ?_ ?_
      | refine LeO.bind ?_ (fun _ => ?_)
    · intro y0 y1 y2 y3 y4 y5 y6
      unfold concordatlaw05_LcsLongest.l1
      repeat' first
      | (with_reducible exact ih0 _ _ _ _)
      | (with_reducible exact ih1 _ _ _ _ _)
      | (with_reducible exact ih2 _ _ _ _ _ _ _)
      | (with_reducible exact concordatlaw05_awake.mono _)
      | (with_reducible exact lcs_Length.mono _ _ _)
      | (with_reducible exact LeO.refl _)
      | (with_reducible exact LeO.none _)
      | (with_reducible refine LeO.ite ?_ ?_)
      | (with_reducible refine LeO.bind ?_ (fun _ => ?_))
      | exact ih0 _ _ _ _
      | exact ih1 _ _ _ _ _
      | exact ih2 _ _ _ _ _ _ _
      | exact concordatlaw05_awake.mono _
      | exact lcs_Length.mono _ _ _
      | exact LeO.none _
      | refine LeO.ite ?_ ?_
      | refine LeO.bind ?_ (fun _ => ?_)
theorem concordatlaw05_LcsLongest.mono : ∀ a0 a1 a2 k, LeO (concordatlaw05_LcsLongest.f k a0 a1 a2) (concordatlaw05_LcsLongest.f (k + 1) a0 a1 a2) := by
  intro a0 a1 a2 k
  obtain ⟨ih0, ih1, ih2⟩ := concordatlaw05_LcsLongest.mono_l k
  unfold concordatlaw05_LcsLongest.f
  repeat' first
      | (with_reducible exact ih0 _ _ _ _)
      | (with_reducible exact ih1 _ _ _ _ _)
      | (with_reducible exact ih2 _ _ _ _ _ _ _)
      | (with_reducible exact concordatlaw05_awake.mono _)
      | (with_reducible exact lcs_Length.mono _ _ _)
      | (with_reducible exact LeO.refl _)
      | (with_reducible exact LeO.none _)
      | (with_reducible refine LeO.ite ?_ ?_)
      | (with_reducible refine LeO.bind ?_ (fun _ => ?_))
      | exact ih0 _ _ _ _
      | exact ih1 _ _ _ _ _
      | exact ih2 _ _ _ _ _ _ _
      | exact concordatlaw05_awake.mono _
      | exact lcs_Length.mono _ _ _
      | exact LeO.none _
      | refine LeO.ite ?_ ?_
      | refine LeO.bind ?_ (fun _ => ?_)
set_option maxHeartbeats 8000000 in
set_option maxRecDepth 100000 in
theorem concordatlaw05_LcsLongest.calls (k : Nat) (A0 : Option Addr) (c0 : Nat) (l0 : List Int) (A1 : Option Addr) (c1 : Nat) (l1 : List Int) (A2 : Option Addr) (c2 : Nat) (l2 : List Int) (r : Bool) (w : World) (hr0 : Kd.C (Kd.int .i64) w A0 l0.length l0) (hc0 : l0.length ≤ c0) (hr1 : Kd.C (Kd.int .i64) w A1 l1.length l1) (hc1 : l1.length ≤ c1) (hr2 : Kd.C (Kd.int .i64) w A2 l2.length l2) (hc2 : l2.length ≤ c2) (h : concordatlaw05_LcsLongest.f k l0 l1 l2 = some r) :
    Calls Try.prog 7 #[.slice A0 l0.length c0, .slice A1 l1.length c1, .slice A2 l2.length c2] w fun e w' => e = .returned (.bool r) ∧ Below w.heap.size w w' := by
  have HR0 := Aside0.mk hr0
  have HC0 := Aside0.mk hc0
  clear hr0 hc0
  have HR1 := Aside0.mk hr1
  have HC1 := Aside0.mk hc1
  clear hr1 hc1
  have HR2 := Aside0.mk hr2
  have HC2 := Aside0.mk hc2
  clear hr2 hc2
  have HB := Aside0.mk (Below.refl w.heap.size w)
  have H : ((concordatlaw05_awake.f k).bind fun t229 => (if t229 = true then (if (l0.length : Int) > 200 then (concordatlaw05_LcsLongest.j0 k l0 l1 l2 true) else (if (l1.length : Int) > 200 then (concordatlaw05_LcsLongest.j0 k l0 l1 l2 true) else (concordatlaw05_LcsLongest.j0 k l0 l1 l2 (decide ((l2.length : Int) > 100))))) else (none))) = some r := h
  clear h
  replace H := Option.bind_eq_some_iff.mp H
  obtain ⟨t229, A40, H⟩ := H
  replace H : (if t229 = true then (if (l0.length : Int) > 200 then (concordatlaw05_LcsLongest.j0 k l0 l1 l2 true) else (if (l1.length : Int) > 200 then (concordatlaw05_LcsLongest.j0 k l0 l1 l2 true) else (concordatlaw05_LcsLongest.j0 k l0 l1 l2 (decide ((l2.length : Int) > 100))))) else (none)) = some r := H
  have A4 := Aside0.mk A40
  clear A40
  by_cases c5 : t229 = true
  · subst c5
    have H1 : (if (l0.length : Int) > 200 then (concordatlaw05_LcsLongest.j0 k l0 l1 l2 true) else (if (l1.length : Int) > 200 then (concordatlaw05_LcsLongest.j0 k l0 l1 l2 true) else (concordatlaw05_LcsLongest.j0 k l0 l1 l2 (decide ((l2.length : Int) > 100))))) = some r := by rw [if_pos rfl] at H; exact H
    clear H
    have H := H1
    clear H1
    have HC6 := Aside0.mk H
    clear H
    go_enter Try.func7, Try.ntmps7
    go_upto_region 4 with (first | ((with_reducible refine gate_callee (f := 8) rfl ?_); refine goesL_ (some 14) rfl rfl Try.func8 (by kernel_rfl) rfl #[] rfl (by (try simp only [List.map_toArray, List.map_cons, List.map_nil]); first | done | rfl | (simp only [List.length_drop, List.length_take]; rfl)) ?_; (with_reducible refine (concordatlaw05_awake.calls k  true _ A4.out).mono ?_); rintro e w7 ⟨rfl, hb⟩; refine ⟨_, rfl, ?_⟩; have n0_ := Aside0.mk (below_step (by repeat (first | (with_reducible first | exact HB.out | apply below_alloc | apply pw_below_drewN | apply below_drew1) | exact HB.out)) hb); clear HB; have HB := n0_; clear n0_; (try clear hb); (try clear hb2); (try clear hk); (try clear hi)))
    (try simp only [Act.put, List.setIfInBounds_toArray, List.set_cons_zero, List.set_cons_succ])
    go_cut [29] (fun v29 wc => ∃ (kq : Nat) (x29_5 : Bool), v29 = .bool x29_5 ∧ Aside0 (concordatlaw05_LcsLongest.j0 kq l0 l1 l2 x29_5 = some r) ∧ Aside0 (kq ≤ k) ∧ Aside0 (Below w.heap.size w wc))
    case first =>
      have H := HC6.out
      clear HC6
      by_cases c8 : (l0.length : Int) > 200
      · rw [if_pos c8] at H
        have c8b0 : decide (200 < (l0.length : Int)) = true := decide_eq_true c8
        have c8b1 : decide (200 < l0.length) = true := decide_eq_true (by omega)
        clear c8
        (first | rw [c8b0] | (simp only [i64_w, i32_w]; rw [c8b0]) | skip)
        have H' := Aside0.mk H
        clear H
        go_wp2
        go_meet
        case rel => exact ⟨_, (true), (by first | rfl | (simp; done) | (simp [*]; done)), H', ⟨by first | omega | exact Nat.le_refl _⟩, ⟨by repeat (first | (with_reducible first | exact HB.out | apply below_alloc | apply pw_below_drewN | apply below_drew1) | exact HB.out)⟩⟩
      · rw [if_neg c8] at H
        have c8b0 : decide (200 < (l0.length : Int)) = false := decide_eq_false c8
        have c8b1 : decide (200 < l0.length) = false := decide_eq_false (by omega)
        clear c8
        (first | rw [c8b0] | (simp only [i64_w, i32_w]; rw [c8b0]) | skip)
        by_cases c9 : (l1.length : Int) > 200
        · rw [if_pos c9] at H
          have c9b0 : decide (200 < (l1.length : Int)) = true := decide_eq_true c9
          have c9b1 : decide (200 < l1.length) = true := decide_eq_true (by omega)
          clear c9
          have H' := Aside0.mk H
          clear H
          go_wp2
          go_meet
          case rel => exact ⟨_, (true), (by first | rfl | (simp; done) | (simp [*]; done)), H', ⟨by first | omega | exact Nat.le_refl _⟩, ⟨by repeat (first | (with_reducible first | exact HB.out | apply below_alloc | apply pw_below_drewN | apply below_drew1) | exact HB.out)⟩⟩
        · rw [if_neg c9] at H
          have c9b0 : decide (200 < (l1.length : Int)) = false := decide_eq_false c9
          have c9b1 : decide (200 < l1.length) = false := decide_eq_false (by omega)
          clear c9
          have H' := Aside0.mk H
          clear H
          go_wp2
          go_meet
          case rel => exact ⟨_, (decide ((l2.length : Int) > 100)), (by first | rfl | (simp; done) | (simp [*]; done)), H', ⟨by first | omega | exact Nat.le_refl _⟩, ⟨by repeat (first | (with_reducible first | exact HB.out | apply below_alloc | apply pw_below_drewN | apply below_drew1) | exact HB.out)⟩⟩
    case rest =>
      clear HC6
      try clear c1
      try clear c2
      try clear p2
      try clear c5
      try clear c7
      try clear c8
      try clear c8b0
      try clear c8b1
      try clear c9
      try clear c9b0
      try clear c9b1
      obtain ⟨kq, x29_5, rfl, HA, HJ5, HB⟩ := hcut
      cases kq with
      | zero => exact absurd HA.out (by simp [concordatlaw05_LcsLongest.j0])
      | succ kj5 =>
        have H := HA.out
        clear HA
        simp only [concordatlaw05_LcsLongest.j0] at H
        by_cases c10 : x29_5 = true
        · subst c10
          have H1 : (some true) = some r := by rw [if_pos rfl] at H; exact H
          clear H
          have H := H1
          clear H1
          obtain rfl := Option.some.inj H
          go_wp2
          go_ret
          exact ⟨by first | rfl | (simp [errW_none, errW_some] <;> rfl) | (simp [*, errW_none, errW_some] <;> rfl), by repeat (first | (with_reducible first | exact HB.out | apply below_alloc | apply pw_below_drewN | apply below_drew1) | exact HB.out)⟩
        · replace c10 := Bool.eq_false_iff.mpr c10
          subst c10
          have H1 : (concordatlaw05_LcsLongest.l0 kj5 l0 l1 l2 ([] : List Int) 0) = some r := by rw [if_neg (show ¬ (false = true) by decide)] at H; exact H
          clear H
          have H := H1
          clear H1
          have H' := Aside0.mk H
          clear H
          go_wp2
          go_loopg [8, 9] kj5 (fun kq v8 v9 w' => ∃ (x8_2 : List Int) (x9_2 : Int), v9 = .int .i64 x9_2 ∧ Aside0 (concordatlaw05_LcsLongest.l0 kq l0 l1 l2 x8_2 x9_2 = some r) ∧ Aside0 (kq ≤ kj5) ∧ Aside0 (Kd.R (Kd.int .i64) 3 w' w.heap.size (fun _ => True) v8 x8_2) ∧ Aside0 (Below w.heap.size w w'))
          case atStart => exact ⟨(([] : List Int)), (0), (by first | rfl | (simp; done) | (simp [*]; done)), H', ⟨Nat.le_refl _⟩, ⟨by first | exact Kd.R_nil _ _ _ _ _ | exact Kd.N_nil _ _ _ _ _ | exact Kd.V_nil _ _ _ _ _ | exact Kd.Q_nil _ _ _ _ _ | exact Kd.S_nil _ _ _ _ _⟩, ⟨by repeat (first | (with_reducible first | exact HB.out | apply below_alloc | apply pw_below_drewN | apply below_drew1) | exact HB.out)⟩⟩
          case round =>
            clear H'
            try clear c1
            try clear c2
            try clear p2
            try clear c5
            try clear c7
            try clear c8
            try clear c8b0
            try clear c8b1
            try clear c9
            try clear c9b0
            try clear c9b1
            try clear c10
            try clear p2
            obtain ⟨x8_2, x9_2, rfl, HA, HK2, HO_8, HB⟩ := hrel
            cases gk with
            | zero => exact absurd HA.out (by simp [concordatlaw05_LcsLongest.l0])
            | succ k2 =>
              have H := HA.out
              clear HA
              simp only [concordatlaw05_LcsLongest.l0] at H
              by_cases c11 : x9_2 < (l0.length : Int)
              · rw [if_pos c11] at H
                have c11b0 : decide (x9_2 < (l0.length : Int)) = true := decide_eq_true c11
                clear c11
                have H' := Aside0.mk H
                clear H
                go_wp2
                go_loopg [10, 11] k2 (fun kq v10 v11 w' => ∃ (x10_3 : Bool) (x11_3 : Int), v10 = .bool x10_3 ∧ v11 = .int .i64 x11_3 ∧ Aside0 (concordatlaw05_LcsLongest.l1 kq l0 l1 l2 x8_2 x9_2 x10_3 x11_3 = some r) ∧ Aside0 (kq ≤ k2) ∧ Aside0 (Kd.R (Kd.int .i64) 3 w' w.heap.size (fun _ => True) u8 x8_2) ∧ Aside0 (Below w.heap.size w w'))
                case atStart => exact ⟨(false), (0), (by first | rfl | (simp; done) | (simp [*]; done)), (by first | rfl | (simp; done) | (simp [*]; done)), H', ⟨Nat.le_refl _⟩, ⟨by (with_reducible repeat (first | apply Kd.R_alloc | apply Kd.R_drewN | apply Kd.R_drew)); exact HO_8.out⟩, ⟨by repeat (first | (with_reducible first | exact HB.out | apply below_alloc | apply pw_below_drewN | apply below_drew1) | exact HB.out)⟩⟩
                case round =>
                  clear H'
                  try clear c1
                  try clear c2
                  try clear p2
                  try clear c5
                  try clear c7
                  try clear c8
                  try clear c8b0
                  try clear c8b1
                  try clear c9
                  try clear c9b0
                  try clear c9b1
                  try clear c10
                  try clear c11
                  try clear c11b0
                  try clear p2
                  obtain ⟨x10_3, x11_3, rfl, rfl, HA, HK3, HO_8, HB⟩ := hrel
                  cases gk with
                  | zero => exact absurd HA.out (by simp [concordatlaw05_LcsLongest.l1])
                  | succ k3 =>
                    have H := HA.out
                    clear HA
                    simp only [concordatlaw05_LcsLongest.l1] at H
                    by_cases c12 : x11_3 < (l2.length : Int)
                    · rw [if_pos c12] at H
                      have c12b0 : decide (x11_3 < (l2.length : Int)) = true := decide_eq_true c12
                      clear c12
                      by_cases c13 : x10_3 = true
                      · subst c13
                        have H1 : (concordatlaw05_LcsLongest.l1 k3 l0 l1 l2 x8_2 x9_2 true (wrap64 (x11_3 + 1))) = some r := by rw [if_pos rfl] at H; exact H
                        clear H
                        have H := H1
                        clear H1
                        have H' := Aside0.mk H
                        clear H
                        go_wp2
                        go_roundg k3
                        case measure => have := HJ5.out; have := HK2.out; have := HK3.out; omega
                        case rel => exact ⟨(true), (wrap64 (x11_3 + 1)), (by first | rfl | (simp; done) | (simp [*]; done)), (by first | rfl | (simp; done) | (simp [*]; done)), H', ⟨by have := HJ5.out; have := HK2.out; have := HK3.out; omega⟩, ⟨by (with_reducible repeat (first | apply Kd.R_alloc | apply Kd.R_drewN | apply Kd.R_drew)); exact HO_8.out⟩, ⟨by repeat (first | (with_reducible first | exact HB.out | apply below_alloc | apply pw_below_drewN | apply below_drew1) | exact HB.out)⟩⟩
                      · replace c13 := Bool.eq_false_iff.mpr c13
                        subst c13
                        have H1 : (if 0 ≤ x11_3 then (concordatlaw05_LcsLongest.l1 k3 l0 l1 l2 x8_2 x9_2 ((rd l2 x11_3) == x9_2) (wrap64 (x11_3 + 1))) else (none)) = some r := by rw [if_neg (show ¬ (false = true) by decide)] at H; exact H
                        clear H
                        have H := H1
                        clear H1
                        by_cases c14 : 0 ≤ x11_3
                        · rw [if_pos c14] at H
                          have c14b0 : decide (0 ≤ x11_3) = true := decide_eq_true c14
                          clear c14
                          have H' := Aside0.mk H
                          clear H
                          have p233 : 0 ≤ (x11_3 : Int) := of_decide_eq_true (by first | (with_reducible assumption) | assumption)
                          have q233 : x11_3 < (l2.length : Int) := of_decide_eq_true (by first | (with_reducible assumption) | assumption)
                          obtain ⟨ad233, e233, hx233_0⟩ := Kd.at_int HR2.out x11_3 p233 q233
                          cases e233
                          replace hx233_0 := (HB.out.cell (World.block_lt_of_cell? w _ hx233_0)).trans hx233_0
                          replace p233 := eq_true p233
                          replace q233 := eq_true q233
                          go_wp2
                          go_roundg k3
                          case measure => have := HJ5.out; have := HK2.out; have := HK3.out; omega
                          case rel => exact ⟨(((rd l2 x11_3) == x9_2)), (wrap64 (x11_3 + 1)), (by first | rfl | (simp; done) | (simp [*]; done)), (by first | rfl | (simp; done) | (simp [*]; done)), H', ⟨by have := HJ5.out; have := HK2.out; have := HK3.out; omega⟩, ⟨by (with_reducible repeat (first | apply Kd.R_alloc | apply Kd.R_drewN | apply Kd.R_drew)); exact HO_8.out⟩, ⟨by repeat (first | (with_reducible first | exact HB.out | apply below_alloc | apply pw_below_drewN | apply below_drew1) | exact HB.out)⟩⟩
                        · rw [if_neg c14] at H
                          exact absurd H (by simp)
                    · rw [if_neg c12] at H
                      have c12b0 : decide (x11_3 < (l2.length : Int)) = false := decide_eq_false c12
                      clear c12
                      by_cases c15 : x10_3 = true
                      · subst c15
                        have H1 : (concordatlaw05_LcsLongest.l0 k3 l0 l1 l2 x8_2 (wrap64 (x9_2 + 1))) = some r := by rw [if_pos rfl] at H; exact H
                        clear H
                        have H := H1
                        clear H1
                        have H' := Aside0.mk H
                        clear H
                        go_wp2
                        go_roundg k3
                        case measure => have := HJ5.out; have := HK2.out; have := HK3.out; omega
                        case rel => exact ⟨(x8_2), (wrap64 (x9_2 + 1)), (by first | rfl | (simp; done) | (simp [*]; done)), H', ⟨by have := HJ5.out; have := HK2.out; have := HK3.out; omega⟩, ⟨by (with_reducible repeat (first | apply Kd.R_alloc | apply Kd.R_drewN | apply Kd.R_drew)); exact HO_8.out⟩, ⟨by repeat (first | (with_reducible first | exact HB.out | apply below_alloc | apply pw_below_drewN | apply below_drew1) | exact HB.out)⟩⟩
                      · replace c15 := Bool.eq_false_iff.mpr c15
                        subst c15
                        have H1 : (if 0 ≤ x9_2 then (if x9_2 < (l0.length : Int) then (if x8_2.length < 17592186044416 then (concordatlaw05_LcsLongest.l0 k3 l0 l1 l2 (x8_2 ++ [rd l0 x9_2]) (wrap64 (x9_2 + 1))) else (none)) else (none)) else (none)) = some r := by rw [if_neg (show ¬ (false = true) by decide)] at H; exact H
                        clear H
                        have H := H1
                        clear H1
                        by_cases c16 : 0 ≤ x9_2
                        · rw [if_pos c16] at H
                          have c16b0 : decide (0 ≤ x9_2) = true := decide_eq_true c16
                          clear c16
                          by_cases c17 : x9_2 < (l0.length : Int)
                          · rw [if_pos c17] at H
                            have c17b0 : decide (x9_2 < (l0.length : Int)) = true := decide_eq_true c17
                            clear c17
                            by_cases c18 : x8_2.length < 17592186044416
                            · rw [if_pos c18] at H
                              have LMc18 := Aside0.mk c18
                              clear c18
                              obtain ⟨y235, hy235⟩ : ∃ y_ : List Int, y_ = (x8_2 ++ [rd l0 x9_2]) := ⟨_, rfl⟩
                              replace H : (concordatlaw05_LcsLongest.l0 k3 l0 l1 l2 y235 (wrap64 (x9_2 + 1))) = some r := by first | (rw [hy235]; with_reducible exact H) | (have H2_ := (Option.bind_some _ _).symm.trans H; rw [hy235]; with_reducible exact H2_) | (have H2_ := (Option.bind_some _ _).symm.trans H; with_reducible exact H2_) | with_reducible exact H | (rw [hy235]; exact H) | exact H
                              have Ny235 := Aside0.mk hy235
                              clear hy235
                              have H' := Aside0.mk H
                              clear H
                              have p234 : 0 ≤ (x9_2 : Int) := of_decide_eq_true (by first | (with_reducible assumption) | assumption)
                              have q234 : x9_2 < (l0.length : Int) := of_decide_eq_true (by first | (with_reducible assumption) | assumption)
                              obtain ⟨ad234, e234, hx234_0⟩ := Kd.at_int HR0.out x9_2 p234 q234
                              cases e234
                              replace hx234_0 := (HB.out.cell (World.block_lt_of_cell? w _ hx234_0)).trans hx234_0
                              replace p234 := eq_true p234
                              replace q234 := eq_true q234
                              go_wp2_with (first | ((with_reducible refine gate_builtin (b := .append) (xs := #[.tmp 53, .tmp 58]) rfl ?_); (try (refine gate_guard (by rfl) ?_; dsimp only)); at_builtin; refine Kd.R_append (Kd.int .i64) (w0 := w) w.heap.size rfl (.tmp 53) (.tmp 58) 22 3 (.int .i64 0) 8 rfl Try.underlying22 info3 rfl (by decide) (by omega) u8 x8_2 (rd l0 x9_2) [.int .i64 (rd l0 x9_2)] (fun _ => True) (fun _ => False) rfl rfl ?aP (fun _ hk => hk.elim) ?aF ?aO ?aB ?aS ?aL ?_; (case aP => exact rfl); (case aB => exact (by repeat (first | (with_reducible first | exact HB.out | apply below_alloc | apply pw_below_drewN | apply below_drew1) | exact HB.out))); (case aF => exact (fun _ _ => trivial)); (case aO => exact (by (with_reducible repeat (first | apply Kd.R_alloc | apply Kd.R_drewN | apply Kd.R_drew)); exact HO_8.out)); (case aS => exact (below_size (by repeat (first | (with_reducible first | exact HB.out | apply below_alloc | apply pw_below_drewN | apply below_drew1) | exact HB.out)))); (case aL => have := LMc18.out; omega); intro v236 w19 ho hb hg hat; rw [← Ny235.out] at ho; have n0_ := Aside0.mk (hb); have n1_ := Aside0.mk (ho); clear HB; clear HO_8; have HB := n0_; have HO237 := n1_; clear n0_ n1_; clear ho hb hg hat))
                              go_roundg k3
                              case measure => have := HJ5.out; have := HK2.out; have := HK3.out; omega
                              case rel => exact ⟨(y235), (wrap64 (x9_2 + 1)), (by first | rfl | (simp; done) | (simp [*]; done)), H', ⟨by have := HJ5.out; have := HK2.out; have := HK3.out; omega⟩, ⟨by (with_reducible repeat (first | apply Kd.R_alloc | apply Kd.R_drewN | apply Kd.R_drew)); exact HO237.out⟩, ⟨by repeat (first | (with_reducible first | exact HB.out | apply below_alloc | apply pw_below_drewN | apply below_drew1) | exact HB.out)⟩⟩
                            · rw [if_neg c18] at H
                              exact absurd H (by simp)
                          · rw [if_neg c17] at H
                            exact absurd H (by simp)
                        · rw [if_neg c16] at H
                          exact absurd H (by simp)
              · rw [if_neg c11] at H
                have c11b0 : decide (x9_2 < (l0.length : Int)) = false := decide_eq_false c11
                clear c11
                replace H := Option.bind_eq_some_iff.mp H
                obtain ⟨t230, A200, H⟩ := H
                replace H : ((lcs_Length.f k2 x8_2 l1).bind fun t231 => ((lcs_Length.f k2 x8_2 l0).bind fun t232 => (if t232 = (x8_2.length : Int) then (if t231 ≤ t230 then (if (wrap64 (t230 - t231)) ≤ (wrap64 ((l0.length : Int) - (x8_2.length : Int))) then (some (decide (t230 ≤ (mn (l0.length : Int) (l1.length : Int))))) else (none)) else (none)) else (none)))) = some r := H
                have A20 := Aside0.mk A200
                clear A200
                replace H := Option.bind_eq_some_iff.mp H
                obtain ⟨t231, A210, H⟩ := H
                replace H : ((lcs_Length.f k2 x8_2 l0).bind fun t232 => (if t232 = (x8_2.length : Int) then (if t231 ≤ t230 then (if (wrap64 (t230 - t231)) ≤ (wrap64 ((l0.length : Int) - (x8_2.length : Int))) then (some (decide (t230 ≤ (mn (l0.length : Int) (l1.length : Int))))) else (none)) else (none)) else (none))) = some r := H
                have A21 := Aside0.mk A210
                clear A210
                replace H := Option.bind_eq_some_iff.mp H
                obtain ⟨t232, A220, H⟩ := H
                replace H : (if t232 = (x8_2.length : Int) then (if t231 ≤ t230 then (if (wrap64 (t230 - t231)) ≤ (wrap64 ((l0.length : Int) - (x8_2.length : Int))) then (some (decide (t230 ≤ (mn (l0.length : Int) (l1.length : Int))))) else (none)) else (none)) else (none)) = some r := H
                have A22 := Aside0.mk A220
                clear A220
                by_cases c23 : t232 = (x8_2.length : Int)
                · rw [if_pos c23] at H
                  have c23b0 : (t232 == (x8_2.length : Int)) = true := beq_iff_eq.mpr c23
                  have c23b1 : (t232 != (x8_2.length : Int)) = false := bne_eq_false_iff_eq.mpr c23
                  clear c23
                  by_cases c24 : t231 ≤ t230
                  · rw [if_pos c24] at H
                    have c24b0 : decide (t231 ≤ t230) = true := decide_eq_true c24
                    clear c24
                    by_cases c25 : (wrap64 (t230 - t231)) ≤ (wrap64 ((l0.length : Int) - (x8_2.length : Int)))
                    · rw [if_pos c25] at H
                      have c25b0 : decide ((wrap64 (t230 - t231)) ≤ (wrap64 ((l0.length : Int) - (x8_2.length : Int)))) = true := decide_eq_true c25
                      clear c25
                      obtain ⟨ji26, hji26⟩ : ∃ j_ : Int, (mn (l0.length : Int) (l1.length : Int)) = j_ := ⟨_, rfl⟩
                      replace H : (some (decide (t230 ≤ (ji26)))) = some r := by first | (rw [hji26] at H; exact H) | (simp only [hji26] at H ⊢; exact H)
                      (try rw [hji26] at A20)
                      (try rw [hji26] at A21)
                      (try rw [hji26] at A22)
                      have hji26_ : (if (l1.length : Int) < (l0.length : Int) then (l1.length : Int) else (l0.length : Int)) = ji26 := hji26
                      have hji26n_ : (if l1.length < l0.length then (l1.length : Int) else (l0.length : Int)) = ji26 := by simpa only [Int.ofNat_lt] using hji26_
                      obtain rfl := Option.some.inj H
                      go_wp2_with (first | ((with_reducible refine gate_callee (f := 12) rfl ?_); refine goesL_ (some 62) rfl rfl Try.func12 (by kernel_rfl) rfl #[.slice A0 l0.length c0, .slice A1 l1.length c1] rfl (by (try simp only [List.map_toArray, List.map_cons, List.map_nil]); first | done | rfl | (simp only [List.length_drop, List.length_take]; rfl)) ?_; (with_reducible refine (lcs_Length.calls k2 _ _ l0 _ _ l1 t230 _ ?side1 ?side2 ?side3 ?side4 A20.out).mono ?_); (case side1 => repeat (first | exact (Kd.C_below HR0.out HB.out) | (with_reducible refine Kd.C_alloc ?_ _) | (with_reducible refine Kd.C_drewN ?_ _) | (with_reducible refine Kd.C_drew ?_))); (case side2 => exact HC0.out); (case side3 => repeat (first | exact (Kd.C_below HR1.out HB.out) | (with_reducible refine Kd.C_alloc ?_ _) | (with_reducible refine Kd.C_drewN ?_ _) | (with_reducible refine Kd.C_drew ?_))); (case side4 => exact HC1.out); rintro e w27 ⟨rfl, hb⟩; refine ⟨_, rfl, ?_⟩; have n0_ := Aside0.mk (Kd.R_below (by (with_reducible repeat (first | apply Kd.R_alloc | apply Kd.R_drewN | apply Kd.R_drew)); exact HO_8.out) hb); have n1_ := Aside0.mk (below_step (by repeat (first | (with_reducible first | exact HB.out | apply below_alloc | apply pw_below_drewN | apply below_drew1) | exact HB.out)) hb); clear HO_8; clear HB; have HO_8 := n0_; have HB := n1_; clear n0_ n1_; (try clear hb); (try clear hb2); (try clear hk); (try clear hi); obtain ⟨Ao28, co28, eo28⟩ := Kd.R_slice HO_8.out; subst eo28) | ((with_reducible refine gate_callee (f := 12) rfl ?_); refine goesL_ (some 65) rfl rfl Try.func12 (by kernel_rfl) rfl #[.slice Ao28 x8_2.length co28, .slice A1 l1.length c1] rfl (by (try simp only [List.map_toArray, List.map_cons, List.map_nil]); first | done | rfl | (simp only [List.length_drop, List.length_take]; rfl)) ?_; (with_reducible refine (lcs_Length.calls k2 _ _ x8_2 _ _ l1 t231 _ ?side1 ?side2 ?side3 ?side4 A21.out).mono ?_); (case side1 => repeat (first | exact (Kd.R_reads' HO_8.out).2.2 | (with_reducible refine Kd.C_alloc ?_ _) | (with_reducible refine Kd.C_drewN ?_ _) | (with_reducible refine Kd.C_drew ?_))); (case side2 => exact (Kd.R_reads' HO_8.out).2.1); (case side3 => repeat (first | exact (Kd.C_below HR1.out HB.out) | (with_reducible refine Kd.C_alloc ?_ _) | (with_reducible refine Kd.C_drewN ?_ _) | (with_reducible refine Kd.C_drew ?_))); (case side4 => exact HC1.out); rintro e w29 ⟨rfl, hb⟩; refine ⟨_, rfl, ?_⟩; have n0_ := Aside0.mk (Kd.R_below (by (with_reducible repeat (first | apply Kd.R_alloc | apply Kd.R_drewN | apply Kd.R_drew)); exact HO_8.out) hb); have n1_ := Aside0.mk (below_step (by repeat (first | (with_reducible first | exact HB.out | apply below_alloc | apply pw_below_drewN | apply below_drew1) | exact HB.out)) hb); clear HO_8; clear HB; have HO_8 := n0_; have HB := n1_; clear n0_ n1_; (try clear hb); (try clear hb2); (try clear hk); (try clear hi)) | ((with_reducible refine gate_callee (f := 12) rfl ?_); refine goesL_ (some 68) rfl rfl Try.func12 (by kernel_rfl) rfl #[.slice Ao28 x8_2.length co28, .slice A0 l0.length c0] rfl (by (try simp only [List.map_toArray, List.map_cons, List.map_nil]); first | done | rfl | (simp only [List.length_drop, List.length_take]; rfl)) ?_; (with_reducible refine (lcs_Length.calls k2 _ _ x8_2 _ _ l0 t232 _ ?side1 ?side2 ?side3 ?side4 A22.out).mono ?_); (case side1 => repeat (first | exact (Kd.R_reads' HO_8.out).2.2 | (with_reducible refine Kd.C_alloc ?_ _) | (with_reducible refine Kd.C_drewN ?_ _) | (with_reducible refine Kd.C_drew ?_))); (case side2 => exact (Kd.R_reads' HO_8.out).2.1); (case side3 => repeat (first | exact (Kd.C_below HR0.out HB.out) | (with_reducible refine Kd.C_alloc ?_ _) | (with_reducible refine Kd.C_drewN ?_ _) | (with_reducible refine Kd.C_drew ?_))); (case side4 => exact HC0.out); rintro e w30 ⟨rfl, hb⟩; refine ⟨_, rfl, ?_⟩; have n0_ := Aside0.mk (Kd.R_below (by (with_reducible repeat (first | apply Kd.R_alloc | apply Kd.R_drewN | apply Kd.R_drew)); exact HO_8.out) hb); have n1_ := Aside0.mk (below_step (by repeat (first | (with_reducible first | exact HB.out | apply below_alloc | apply pw_below_drewN | apply below_drew1) | exact HB.out)) hb); clear HO_8; clear HB; have HO_8 := n0_; have HB := n1_; clear n0_ n1_; (try clear hb); (try clear hb2); (try clear hk); (try clear hi)))
                      go_ret
                      exact ⟨by first | rfl | (simp [errW_none, errW_some] <;> rfl) | (simp only [← hji26]; first | rfl | (simp [errW_none, errW_some] <;> rfl)) | (simp [*, errW_none, errW_some] <;> rfl), by repeat (first | (with_reducible first | exact HB.out | apply below_alloc | apply pw_below_drewN | apply below_drew1) | exact HB.out)⟩
                    · rw [if_neg c25] at H
                      exact absurd H (by simp)
                  · rw [if_neg c24] at H
                    exact absurd H (by simp)
                · rw [if_neg c23] at H
                  exact absurd H (by simp)
  · replace c5 := Bool.eq_false_iff.mpr c5
    subst c5
    have H1 : (none) = some r := by rw [if_neg (show ¬ (false = true) by decide)] at H; exact H
    clear H
    have H := H1
    clear H1
    exact absurd H (by simp)

/-- THE ONE PURE STATEMENT of concordatlaw05_LcsLongest: yours. -/
def concordatlaw05_LcsLongest.Pure : Prop := ∀ (l0 : List Int) (l1 : List Int) (l2 : List Int), l0.length ≤ maxLen → l0.length * 8 ≤ 140737488351232 → (∀ x ∈ l0, (Lit.int .i64 x).wf = true) → l1.length ≤ maxLen → l1.length * 8 ≤ 140737488351232 → (∀ x ∈ l1, (Lit.int .i64 x).wf = true) → l2.length ≤ maxLen → l2.length * 8 ≤ 140737488351232 → (∀ x ∈ l2, (Lit.int .i64 x).wf = true) → ∃ k, concordatlaw05_LcsLongest.f k l0 l1 l2 = some true
theorem concordatlaw05_LcsLongest.walk (P : concordatlaw05_LcsLongest.Pure) (a0 : Option Addr) (len0 cap0 : Nat) (z0 : List Int) (a1 : Option Addr) (len1 cap1 : Nat) (z1 : List Int) (a2 : Option Addr) (len2 cap2 : Nat) (z2 : List Int) (w : World) (w0 : (a0 = none ∧ len0 = 0 ∧ cap0 = 0 ∧ z0 = []) ∨ ∃ x, a0 = some x ∧ len0 ≤ cap0 ∧ cap0 ≤ maxLen ∧ z0.length = cap0 ∧ (∀ i, i < z0.length → w.cell? (x.add i) = some (.int .i64 (z0.getD i 0))) ∧ ∀ n ∈ z0, (Lit.int .i64 n).wf = true) (y0 : len0 * 8 ≤ 140737488351232) (w1 : (a1 = none ∧ len1 = 0 ∧ cap1 = 0 ∧ z1 = []) ∨ ∃ x, a1 = some x ∧ len1 ≤ cap1 ∧ cap1 ≤ maxLen ∧ z1.length = cap1 ∧ (∀ i, i < z1.length → w.cell? (x.add i) = some (.int .i64 (z1.getD i 0))) ∧ ∀ n ∈ z1, (Lit.int .i64 n).wf = true) (y1 : len1 * 8 ≤ 140737488351232) (w2 : (a2 = none ∧ len2 = 0 ∧ cap2 = 0 ∧ z2 = []) ∨ ∃ x, a2 = some x ∧ len2 ≤ cap2 ∧ cap2 ≤ maxLen ∧ z2.length = cap2 ∧ (∀ i, i < z2.length → w.cell? (x.add i) = some (.int .i64 (z2.getD i 0))) ∧ ∀ n ∈ z2, (Lit.int .i64 n).wf = true) (y2 : len2 * 8 ≤ 140737488351232) :
    Calls Try.prog 7 #[.slice a0 len0 cap0, .slice a1 len1 cap1, .slice a2 len2 cap2] w fun e w' => e = .returned (.bool true) ∧ Below w.heap.size w w' := by
  obtain ⟨l0, rfl, hr0, hm0, hw0, hc0⟩ := ReadsInt.ofRowC w0
  obtain ⟨l1, rfl, hr1, hm1, hw1, hc1⟩ := ReadsInt.ofRowC w1
  obtain ⟨l2, rfl, hr2, hm2, hw2, hc2⟩ := ReadsInt.ofRowC w2
  obtain ⟨k, h⟩ := P l0 l1 l2 hm0 y0 hw0 hm1 y1 hw1 hm2 y2 hw2
  refine (concordatlaw05_LcsLongest.calls k _ _ l0 _ _ l1 _ _ l2 true w (Kd.C_of_reads (d := (0 : Int)) (h1 := fun _ => rfl) hr0) hc0 (Kd.C_of_reads (d := (0 : Int)) (h1 := fun _ => rfl) hr1) hc1 (Kd.C_of_reads (d := (0 : Int)) (h1 := fun _ => rfl) hr2) hc2 h).mono ?_
  rintro e w' ⟨rfl, hd⟩
  exact ⟨rfl, hd⟩

end Go.Proofs.Ytjbgdoapbehopaa.PLcsLongest
