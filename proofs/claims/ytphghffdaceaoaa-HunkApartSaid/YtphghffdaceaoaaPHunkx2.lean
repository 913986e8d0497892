/- Laid by a program of this session out of the seat's translation. -/
import Derived.Test.YtphghffdaceaoaaPHunkx0
import Derived.Test.YtphghffdaceaoaaPHunkx1
namespace Go.Proofs.Ytphghffdaceaoaa.PHunk
open Go.RowKit Go.Proofs.YtphghffdaceaoaaW.PrintWords Go.Proofs.YtphghffdaceaoaaW.PrintLast Go.Proofs.YtphghffdaceaoaaW.PrintMore
attribute [local go_sem] max2_int min2_int max_two min_two max_three min_three max_four min_four   -- for this text's walks alone
set_option linter.unusedVariables false
set_option linter.unusedSimpArgs false
attribute [local go_sem high] eqA40
/-! ### r06_Same: function 8 -/
def r06_Same.l0 : Nat → List (S40) → List (S40) → Int → Option (Bool)
 | 0, _, _, _ => none
 | k + 1, x0, x1, x5 => if x5 < (x0.length : Int) then (if 0 ≤ x5 then (if x5 < (x1.length : Int) then (if (!(((rd_T40 x0 x5).f0) == ((rd_T40 x1 x5).f0)) || (!(((rd_T40 x0 x5).f1) == ((rd_T40 x1 x5).f1)) || (!(((rd_T40 x0 x5).f2) == ((rd_T40 x1 x5).f2)) || (!(((rd_T40 x0 x5).f3) == ((rd_T40 x1 x5).f3)))))) = true then (some false) else (r06_Same.l0 k x0 x1 (wrap64 (x5 + 1)))) else (none)) else (none)) else (some true)
def r06_Same.f (k : Nat) (l0 : List (S40)) (l1 : List (S40)) : Option (Bool) := if (l0.length : Int) = (l1.length : Int) then (r06_Same.l0 k l0 l1 0) else (some false)
theorem r06_Same.mono_l : ∀ k, (∀ y0 y1 y2, LeO (r06_Same.l0 k y0 y1 y2) (r06_Same.l0 (k + 1) y0 y1 y2))
 | 0 => fun _ _ _ r h => by simp [r06_Same.l0] at h
 | k + 1 => by
  have ih0 := r06_Same.mono_l k
  ·intro y0 y1 y2
   unfold r06_Same.l0
   repeat' first
   | (with_reducible exact ih0 _ _ _)
   | (with_reducible exact LeO.refl _)
   | (with_reducible exact LeO.none _)
   | (with_reducible refine LeO.ite ?_ ?_)
   | (with_reducible refine LeO.bind ?_ (fun _ => ?_))
   | exact ih0 _ _ _
   | exact LeO.none _
   | refine LeO.ite ?_ ?_
   | refine LeO.bind ?_ (fun _ => ?_)
theorem r06_Same.mono : ∀ a0 a1 k, LeO (r06_Same.f k a0 a1) (r06_Same.f (k + 1) a0 a1) := by
 intro a0 a1 k
 have ih0 := r06_Same.mono_l k
 unfold r06_Same.f
 repeat' first
   | (with_reducible exact ih0 _ _ _)
   | (with_reducible exact LeO.refl _)
   | (with_reducible exact LeO.none _)
   | (with_reducible refine LeO.ite ?_ ?_)
   | (with_reducible refine LeO.bind ?_ (fun _ => ?_))
   | exact ih0 _ _ _
   | exact LeO.none _
   | refine LeO.ite ?_ ?_
   | refine LeO.bind ?_ (fun _ => ?_)
set_option maxHeartbeats 8000000 in
set_option maxRecDepth 100000 in
theorem r06_Same.calls (k : Nat) (A0 : Option Addr) (c0 : Nat) (l0 : List (S40)) (A1 : Option Addr) (c1 : Nat) (l1 : List (S40)) (r : Bool) (w : World) (hr0 : Kd.C k40 w A0 l0.length l0) (hc0 : l0.length ≤ c0) (hr1 : Kd.C k40 w A1 l1.length l1) (hc1 : l1.length ≤ c1) (h : r06_Same.f k l0 l1 = some r) :
  Calls Try.prog 8 #[.slice A0 l0.length c0, .slice A1 l1.length c1] w fun e w' => e = .returned (.bool r) ∧ Drawn0 w w' := by
 have hu40 := Try.underlying40
 have HR0 := Zm hr0
 have HC0 := Zm hc0
 clear hr0 hc0
 have HR1 := Zm hr1
 have HC1 := Zm hc1
 clear hr1 hc1
 have H : (if (l0.length : Int) = (l1.length : Int) then (r06_Same.l0 k l0 l1 0) else (some false)) = some r := h
 clear h
 by_cases c3 : (l0.length : Int) = (l1.length : Int)
 ·rw [if_pos c3] at H
  have c3b0 : ((l0.length : Int) == (l1.length : Int)) = true := beq_iff_eq.mpr c3
  have c3b1 : ((l0.length : Int) != (l1.length : Int)) = false := bne_eq_false_iff_eq.mpr c3
  have c3b2 : (l0.length == l1.length) = true := by first | simpa using c3 | (simp at c3 ⊢; omega)
  clear c3
  have H' := Zm H
  clear H
  go_enter Try.func8, Try.ntmps8
  go_wp2
  repeat (go_quiet (fail); try go_wp2)
  go_loopg [5] k (fun kq v5 w' => ∃ (x5_1 : Int), v5 = .int .i64 x5_1 ∧ Aside0 (r06_Same.l0 kq l0 l1 x5_1 = some r) ∧ Aside0 (kq ≤ k) ∧ Drawn0 w w')
  case atStart => exact ⟨(0), (by first | rfl | (simp; done) | (simp [*]; done)), H', ⟨Nat.le_refl _⟩, by repeat (first | exact Drawn0.refl _ | apply Drawn0.step)⟩
  case round =>
   clear H'
   try clear c1
   try clear p2
   try clear c3
   try clear c3b0
   try clear c3b1
   try clear c3b2
   obtain ⟨x5_1, rfl, HA, HK1, ⟨m1, rfl⟩⟩ := hrel
   cases gk with
   | zero => exact absurd HA.out (by simp [r06_Same.l0])
   | succ k1 =>
    have H := HA.out
    clear HA
    simp only [r06_Same.l0] at H
    by_cases c4 : x5_1 < (l0.length : Int)
    ·rw [if_pos c4] at H
     have c4b0 : decide (x5_1 < (l0.length : Int)) = true := decide_eq_true c4
     clear c4
     by_cases c5 : 0 ≤ x5_1
     ·rw [if_pos c5] at H
      have c5b0 : decide (0 ≤ x5_1) = true := decide_eq_true c5
      clear c5
      by_cases c6 : x5_1 < (l1.length : Int)
      ·rw [if_pos c6] at H
       have c6b0 : decide (x5_1 < (l1.length : Int)) = true := decide_eq_true c6
       clear c6
       by_cases c7 : (!(((rd_T40 l0 x5_1).f0) == ((rd_T40 l1 x5_1).f0)) || (!(((rd_T40 l0 x5_1).f1) == ((rd_T40 l1 x5_1).f1)) || (!(((rd_T40 l0 x5_1).f2) == ((rd_T40 l1 x5_1).f2)) || (!(((rd_T40 l0 x5_1).f3) == ((rd_T40 l1 x5_1).f3)))))) = true
       ·rw [if_pos c7] at H
        have c7b0 : (!(((rd_T40 l0 x5_1).f0) == ((rd_T40 l1 x5_1).f0)) || (!(((rd_T40 l0 x5_1).f1) == ((rd_T40 l1 x5_1).f1)) || (!(((rd_T40 l0 x5_1).f2) == ((rd_T40 l1 x5_1).f2)) || (!(((rd_T40 l0 x5_1).f3) == ((rd_T40 l1 x5_1).f3)))))) = true := c7
        clear c7
        obtain rfl := Option.some.inj H
        have p101 : 0 ≤ (x5_1 : Int) := Zo (by first | (with_reducible assumption) | assumption)
        have q101 : x5_1 < (l0.length : Int) := Zo (by first | (with_reducible assumption) | assumption)
        obtain ⟨ad101, e101, hx101_0, hx101_1, hx101_2, hx101_3⟩ := at_T40 HR0.out x5_1 p101 q101
        cases e101
        replace p101 := eq_true p101
        replace q101 := eq_true q101
        have p102 : 0 ≤ (x5_1 : Int) := Zo (by first | (with_reducible assumption) | assumption)
        have q102 : x5_1 < (l1.length : Int) := Zo (by first | (with_reducible assumption) | assumption)
        obtain ⟨ad102, e102, hx102_0, hx102_1, hx102_2, hx102_3⟩ := at_T40 HR1.out x5_1 p102 q102
        cases e102
        replace p102 := eq_true p102
        replace q102 := eq_true q102
        go_wp2
        repeat (go_quiet (fail); try go_wp2)
        go_ret
        exact ⟨by first | rfl | (simp; done) | (simp [*]; done), by repeat (first | exact Drawn0.refl _ | apply Drawn0.step)⟩
       ·rw [if_neg c7] at H
        have c7b0 : (!(((rd_T40 l0 x5_1).f0) == ((rd_T40 l1 x5_1).f0)) || (!(((rd_T40 l0 x5_1).f1) == ((rd_T40 l1 x5_1).f1)) || (!(((rd_T40 l0 x5_1).f2) == ((rd_T40 l1 x5_1).f2)) || (!(((rd_T40 l0 x5_1).f3) == ((rd_T40 l1 x5_1).f3)))))) = false := by simpa using c7
        clear c7
        have H' := Zm H
        clear H
        have p101 : 0 ≤ (x5_1 : Int) := Zo (by first | (with_reducible assumption) | assumption)
        have q101 : x5_1 < (l0.length : Int) := Zo (by first | (with_reducible assumption) | assumption)
        obtain ⟨ad101, e101, hx101_0, hx101_1, hx101_2, hx101_3⟩ := at_T40 HR0.out x5_1 p101 q101
        cases e101
        replace p101 := eq_true p101
        replace q101 := eq_true q101
        have p102 : 0 ≤ (x5_1 : Int) := Zo (by first | (with_reducible assumption) | assumption)
        have q102 : x5_1 < (l1.length : Int) := Zo (by first | (with_reducible assumption) | assumption)
        obtain ⟨ad102, e102, hx102_0, hx102_1, hx102_2, hx102_3⟩ := at_T40 HR1.out x5_1 p102 q102
        cases e102
        replace p102 := eq_true p102
        replace q102 := eq_true q102
        go_wp2
        repeat (go_quiet (fail); try go_wp2)
        go_roundg k1
        case measure => have := HK1.out; omega
        case rel => exact ⟨(wrap64 (x5_1 + 1)), (by first | rfl | (simp; done) | (simp [*]; done)), H', ⟨by have := HK1.out; omega⟩, by repeat (first | exact Drawn0.refl _ | apply Drawn0.step)⟩
      ·rw [if_neg c6] at H
       exact absurd H (by simp)
     ·rw [if_neg c5] at H
      exact absurd H (by simp)
    ·rw [if_neg c4] at H
     have c4b0 : decide (x5_1 < (l0.length : Int)) = false := decide_eq_false c4
     clear c4
     obtain rfl := Option.some.inj H
     go_wp2
     repeat (go_quiet (fail); try go_wp2)
     go_ret
     exact ⟨by first | rfl | (simp; done) | (simp [*]; done), by repeat (first | exact Drawn0.refl _ | apply Drawn0.step)⟩
 ·rw [if_neg c3] at H
  have c3b0 : ((l0.length : Int) == (l1.length : Int)) = false := beq_eq_false_iff_ne.mpr c3
  have c3b1 : ((l0.length : Int) != (l1.length : Int)) = true := bne_iff_ne.mpr c3
  have c3b2 : (l0.length == l1.length) = false := by first | simpa using c3 | (simp at c3 ⊢; omega)
  obtain rfl := Option.some.inj H
  go_enter Try.func8, Try.ntmps8
  go_wp2
  repeat (go_quiet (fail); try go_wp2)
  go_ret
  exact ⟨by first | rfl | (simp; done) | (simp [*]; done), by repeat (first | exact Drawn0.refl _ | apply Drawn0.step)⟩
/-! ### hunk_match: function 24 -/
def hunk_match.l0 : Nat → Int → Int → List Int → Int → Int → Option (Bool)
 | 0, _, _, _, _, _ => none
 | k + 1, x1, x5, x8, x9, x10 => if x10 < x9 then (if 0 ≤ x10 then (if x10 < (x8.length : Int) then (if (rd x8 x10) < (-1) then (some false) else (if (rd x8 x10) ≥ x1 then (some false) else (if (rd x8 x10) ≥ 0 then (if (rd x8 x10) ≤ x5 then (some false) else (hunk_match.l0 k x1 (mx x5 (rd x8 x10)) x8 x9 (wrap64 (x10 + 1)))) else (hunk_match.l0 k x1 (mx x5 (rd x8 x10)) x8 x9 (wrap64 (x10 + 1)))))) else (none)) else (none)) else (some (decide (x1 ≥ 0)))
def hunk_match.f (k : Nat) (l0 : List Int) (a1 : Int) : Option (Bool) := hunk_match.l0 k a1 (-1) l0 (l0.length : Int) 0
theorem hunk_match.mono_l : ∀ k, (∀ y0 y1 y2 y3 y4, LeO (hunk_match.l0 k y0 y1 y2 y3 y4) (hunk_match.l0 (k + 1) y0 y1 y2 y3 y4))
 | 0 => fun _ _ _ _ _ r h => by simp [hunk_match.l0] at h
 | k + 1 => by
  have ih0 := hunk_match.mono_l k
  ·intro y0 y1 y2 y3 y4
   unfold hunk_match.l0
   repeat' first
   | (with_reducible exact ih0 _ _ _ _ _)
   | (with_reducible exact LeO.refl _)
   | (with_reducible exact LeO.none _)
   | (with_reducible refine LeO.ite ?_ ?_)
   | (with_reducible refine LeO.bind ?_ (fun _ => ?_))
   | exact ih0 _ _ _ _ _
   | exact LeO.none _
   | refine LeO.ite ?_ ?_
   | refine LeO.bind ?_ (fun _ => ?_)
theorem hunk_match.mono : ∀ a0 a1 k, LeO (hunk_match.f k a0 a1) (hunk_match.f (k + 1) a0 a1) := by
 intro a0 a1 k
 have ih0 := hunk_match.mono_l k
 unfold hunk_match.f
 repeat' first
   | (with_reducible exact ih0 _ _ _ _ _)
   | (with_reducible exact LeO.refl _)
   | (with_reducible exact LeO.none _)
   | (with_reducible refine LeO.ite ?_ ?_)
   | (with_reducible refine LeO.bind ?_ (fun _ => ?_))
   | exact ih0 _ _ _ _ _
   | exact LeO.none _
   | refine LeO.ite ?_ ?_
   | refine LeO.bind ?_ (fun _ => ?_)
set_option maxHeartbeats 8000000 in
set_option maxRecDepth 100000 in
theorem hunk_match.calls (k : Nat) (A0 : Option Addr) (c0 : Nat) (l0 : List Int) (a1 : Int) (r : Bool) (w : World) (hr0 : Kd.C (Kd.int .i64) w A0 l0.length l0) (hc0 : l0.length ≤ c0) (h : hunk_match.f k l0 a1 = some r) :
  Calls Try.prog 24 #[.slice A0 l0.length c0, .int .i64 a1] w fun e w' => e = .returned (.bool r) ∧ Below w.heap.size w w' := by
 have HR0 := Zm hr0
 have HC0 := Zm hc0
 clear hr0 hc0
 have HB := Zm (Below.refl w.heap.size w)
 have H : (hunk_match.l0 k a1 (-1) l0 (l0.length : Int) 0) = some r := h
 clear h
 have H' := Zm H
 clear H
 go_enter Try.func24, Try.ntmps24
 go_wp2
 go_loopg [5, 10] k (fun kq v5 v10 w' => ∃ (x5_1 : Int) (x10_1 : Int), v5 = .int .i64 x5_1 ∧ v10 = .int .i64 x10_1 ∧ Aside0 (hunk_match.l0 kq a1 x5_1 l0 (l0.length : Int) x10_1 = some r) ∧ Aside0 (kq ≤ k) ∧ Aside0 (Below w.heap.size w w'))
 case atStart => exact ⟨((-1)), (0), (by first | rfl | (simp; done) | (simp [*]; done)), (by first | rfl | (simp; done) | (simp [*]; done)), H', ⟨Nat.le_refl _⟩, ⟨by repeat (first | (with_reducible first | exact HB.out | apply below_alloc | apply Zd | apply below_drew1) | exact HB.out)⟩⟩
 case round =>
  clear H'
  try clear c2
  try clear p2
  obtain ⟨x5_1, x10_1, rfl, rfl, HA, HK1, HB⟩ := hrel
  cases gk with
  | zero => exact absurd HA.out (by simp [hunk_match.l0])
  | succ k1 =>
   have H := HA.out
   clear HA
   simp only [hunk_match.l0] at H
   by_cases c3 : x10_1 < (l0.length : Int)
   ·rw [if_pos c3] at H
    have c3b0 : decide (x10_1 < (l0.length : Int)) = true := decide_eq_true c3
    clear c3
    by_cases c4 : 0 ≤ x10_1
    ·rw [if_pos c4] at H
     have c4b0 : decide (0 ≤ x10_1) = true := decide_eq_true c4
     clear c4
     by_cases c5 : x10_1 < (l0.length : Int)
     ·rw [if_pos c5] at H
      have c5b0 : decide (x10_1 < (l0.length : Int)) = true := decide_eq_true c5
      clear c5
      by_cases c6 : (rd l0 x10_1) < (-1)
      ·rw [if_pos c6] at H
       have c6b0 : decide ((rd l0 x10_1) < (-1)) = true := decide_eq_true c6
       clear c6
       obtain rfl := Option.some.inj H
       have p103 : 0 ≤ (x10_1 : Int) := Zo (by first | (with_reducible assumption) | assumption)
       have q103 : x10_1 < (l0.length : Int) := Zo (by first | (with_reducible assumption) | assumption)
       obtain ⟨ad103, e103, hx103_0⟩ := Kd.at_int HR0.out x10_1 p103 q103
       cases e103
       replace hx103_0 := (HB.out.cell (World.block_lt_of_cell? w _ hx103_0)).trans hx103_0
       replace p103 := eq_true p103
       replace q103 := eq_true q103
       go_wp2
       go_ret
       exact ⟨by first | rfl | (simp [errW_none, errW_some] <;> rfl) | (simp [*, errW_none, errW_some] <;> rfl), by repeat (first | (with_reducible first | exact HB.out | apply below_alloc | apply Zd | apply below_drew1) | exact HB.out)⟩
      ·rw [if_neg c6] at H
       have c6b0 : decide ((rd l0 x10_1) < (-1)) = false := decide_eq_false c6
       clear c6
       by_cases c7 : (rd l0 x10_1) ≥ a1
       ·rw [if_pos c7] at H
        have c7b0 : decide (a1 ≤ (rd l0 x10_1)) = true := decide_eq_true c7
        clear c7
        obtain rfl := Option.some.inj H
        have p103 : 0 ≤ (x10_1 : Int) := Zo (by first | (with_reducible assumption) | assumption)
        have q103 : x10_1 < (l0.length : Int) := Zo (by first | (with_reducible assumption) | assumption)
        obtain ⟨ad103, e103, hx103_0⟩ := Kd.at_int HR0.out x10_1 p103 q103
        cases e103
        replace hx103_0 := (HB.out.cell (World.block_lt_of_cell? w _ hx103_0)).trans hx103_0
        replace p103 := eq_true p103
        replace q103 := eq_true q103
        go_wp2
        go_ret
        exact ⟨by first | rfl | (simp [errW_none, errW_some] <;> rfl) | (simp [*, errW_none, errW_some] <;> rfl), by repeat (first | (with_reducible first | exact HB.out | apply below_alloc | apply Zd | apply below_drew1) | exact HB.out)⟩
       ·rw [if_neg c7] at H
        have c7b0 : decide (a1 ≤ (rd l0 x10_1)) = false := decide_eq_false c7
        clear c7
        by_cases c8 : (rd l0 x10_1) ≥ 0
        ·rw [if_pos c8] at H
         have c8b0 : decide (0 ≤ (rd l0 x10_1)) = true := decide_eq_true c8
         clear c8
         by_cases c9 : (rd l0 x10_1) ≤ x5_1
         ·rw [if_pos c9] at H
          have c9b0 : decide ((rd l0 x10_1) ≤ x5_1) = true := decide_eq_true c9
          clear c9
          obtain rfl := Option.some.inj H
          have p103 : 0 ≤ (x10_1 : Int) := Zo (by first | (with_reducible assumption) | assumption)
          have q103 : x10_1 < (l0.length : Int) := Zo (by first | (with_reducible assumption) | assumption)
          obtain ⟨ad103, e103, hx103_0⟩ := Kd.at_int HR0.out x10_1 p103 q103
          cases e103
          replace hx103_0 := (HB.out.cell (World.block_lt_of_cell? w _ hx103_0)).trans hx103_0
          replace p103 := eq_true p103
          replace q103 := eq_true q103
          go_wp2
          go_ret
          exact ⟨by first | rfl | (simp [errW_none, errW_some] <;> rfl) | (simp [*, errW_none, errW_some] <;> rfl), by repeat (first | (with_reducible first | exact HB.out | apply below_alloc | apply Zd | apply below_drew1) | exact HB.out)⟩
         ·rw [if_neg c9] at H
          have c9b0 : decide ((rd l0 x10_1) ≤ x5_1) = false := decide_eq_false c9
          clear c9
          obtain ⟨ji10, hji10⟩ : ∃ j_ : Int, (mx x5_1 (rd l0 x10_1)) = j_ := ⟨_, rfl⟩
          replace H : (hunk_match.l0 k1 a1 ji10 l0 (l0.length : Int) (wrap64 (x10_1 + 1))) = some r := by first | (rw [hji10] at H; exact H) | (simp only [hji10] at H ⊢; exact H)
          have hji10_ : (if x5_1 < (rd l0 x10_1) then (rd l0 x10_1) else x5_1) = ji10 := hji10
          have H' := Zm H
          clear H
          have p103 : 0 ≤ (x10_1 : Int) := Zo (by first | (with_reducible assumption) | assumption)
          have q103 : x10_1 < (l0.length : Int) := Zo (by first | (with_reducible assumption) | assumption)
          obtain ⟨ad103, e103, hx103_0⟩ := Kd.at_int HR0.out x10_1 p103 q103
          cases e103
          replace hx103_0 := (HB.out.cell (World.block_lt_of_cell? w _ hx103_0)).trans hx103_0
          replace p103 := eq_true p103
          replace q103 := eq_true q103
          go_wp2
          go_roundg k1
          case measure => have := HK1.out; omega
          case rel => exact ⟨(ji10), (wrap64 (x10_1 + 1)), (by first | rfl | (simp; done) | (simp only [← hji10] <;> (first | rfl | simp)) | (simp [*]; done)), (by first | rfl | (simp; done) | (simp [*]; done)), H', ⟨by have := HK1.out; omega⟩, ⟨by repeat (first | (with_reducible first | exact HB.out | apply below_alloc | apply Zd | apply below_drew1) | exact HB.out)⟩⟩
        ·rw [if_neg c8] at H
         have c8b0 : decide (0 ≤ (rd l0 x10_1)) = false := decide_eq_false c8
         clear c8
         obtain ⟨ji11, hji11⟩ : ∃ j_ : Int, (mx x5_1 (rd l0 x10_1)) = j_ := ⟨_, rfl⟩
         replace H : (hunk_match.l0 k1 a1 ji11 l0 (l0.length : Int) (wrap64 (x10_1 + 1))) = some r := by first | (rw [hji11] at H; exact H) | (simp only [hji11] at H ⊢; exact H)
         have hji11_ : (if x5_1 < (rd l0 x10_1) then (rd l0 x10_1) else x5_1) = ji11 := hji11
         have H' := Zm H
         clear H
         have p103 : 0 ≤ (x10_1 : Int) := Zo (by first | (with_reducible assumption) | assumption)
         have q103 : x10_1 < (l0.length : Int) := Zo (by first | (with_reducible assumption) | assumption)
         obtain ⟨ad103, e103, hx103_0⟩ := Kd.at_int HR0.out x10_1 p103 q103
         cases e103
         replace hx103_0 := (HB.out.cell (World.block_lt_of_cell? w _ hx103_0)).trans hx103_0
         replace p103 := eq_true p103
         replace q103 := eq_true q103
         go_wp2
         go_roundg k1
         case measure => have := HK1.out; omega
         case rel => exact ⟨(ji11), (wrap64 (x10_1 + 1)), (by first | rfl | (simp; done) | (simp only [← hji11] <;> (first | rfl | simp)) | (simp [*]; done)), (by first | rfl | (simp; done) | (simp [*]; done)), H', ⟨by have := HK1.out; omega⟩, ⟨by repeat (first | (with_reducible first | exact HB.out | apply below_alloc | apply Zd | apply below_drew1) | exact HB.out)⟩⟩
     ·rw [if_neg c5] at H
      exact absurd H (by simp)
    ·rw [if_neg c4] at H
     exact absurd H (by simp)
   ·rw [if_neg c3] at H
    have c3b0 : decide (x10_1 < (l0.length : Int)) = false := decide_eq_false c3
    clear c3
    obtain rfl := Option.some.inj H
    go_wp2
    go_ret
    exact ⟨by first | rfl | (simp [errW_none, errW_some] <;> rfl) | (simp [*, errW_none, errW_some] <;> rfl), by repeat (first | (with_reducible first | exact HB.out | apply below_alloc | apply Zd | apply below_drew1) | exact HB.out)⟩
/-! ### hunk_Of: function 9 -/
theorem hunk_Of.Rk_step {W W' : World} {base : Nat} {v : Value} {xs : List S40} (h : Kd.R k40 40 W base (fun _ => True) v xs) (hm : ∀ (k : Nat) (cs : Array Value), W.heap[k]? = some (.cells cs 40 (0, 0)) → W'.heap[k]? = W.heap[k]?) : Kd.R k40 40 W' base (fun _ => True) v xs :=
 Kd.R_mono (Kd.R_move (Kd.R_bound h) (fun k hk => by
  obtain ⟨_, _, _, q, hq, cs, hc⟩ := hk
  have : q = 40 := by
   rcases List.mem_cons.1 hq with rfl | h'
   ·rfl
   ·exact absurd h' (by simp [k40, Kd.iso, Kd.pair, Kd.int, Kd.scalar])
  subst this; exact hm k cs hc)) (fun _ _ => trivial)
theorem hunk_Of.Rk_set {W : World} {base B i : Nat} {t : TypeId} {cs : Array Value} {v : Value} {xs : List S40} (h : Kd.R k40 40 W base (fun _ => True) v xs) (hB : W.heap[B]? = some (.cells cs t (0, 0))) (ht : t ≠ 40) (u : Value) : Kd.R k40 40 (W.setCell ⟨B, i, none⟩ u) base (fun _ => True) v xs :=
 hunk_Of.Rk_step h (fun k cs' hc => Below.heap_setCell _ _ _ _ (by intro e; have e : k = B := e; rw [e, hB] at hc; cases hc; exact ht rfl))
theorem hunk_Of.Bx_far {W : World} {B B' i : Nat} {t t' : TypeId} {cs : Array Value} {v : Value} (h : Boxed W B t v) (h' : W.heap[B']? = some (.cells cs t' (0, 0))) (ht : B ≠ B') (u : Value) : Boxed (W.setCell ⟨B', i, none⟩ u) B t v :=
 (Below.heap_setCell _ _ _ _ (fun e => ht e)).trans h
theorem hunk_Of.ne_own {W : World} {base B : Nat} {t : TypeId} {u v : Value} {xs : List S40} (h : Kd.R k40 40 W base (fun _ => True) v xs) (hb : Boxed W B t u) (ht : t ≠ 40) : some B ≠ v.ownBlock := fun e => by
 obtain ⟨_, _, _, q, hq, cs, hc⟩ := (Kd.R_bound h).1 B e.symm
 have : q = 40 := by
  rcases List.mem_cons.1 hq with rfl | h'
  ·rfl
  ·exact absurd h' (by simp [k40, Kd.iso, Kd.pair, Kd.int, Kd.scalar])
 subst this
 rw [show W.heap[B]? = _ from hb] at hc
 cases hc; exact ht rfl
def hunk_Of.up (i k : Int) (s : List S40 × Int × Int) : List S40 × Int × Int := (if i > s.2.1 ∨ k > s.2.2 then s.1 ++ [⟨s.2.1, i - s.2.1, s.2.2, k - s.2.2⟩] else s.1, i + 1, k + 1)
set_option maxHeartbeats 4000000 in
set_option maxRecDepth 100000 in
theorem hunk_Of.upto (Ba Bb Bo : Nat) (i k a b : Int) (v : Value) (rs : List S40) (w W : World) (ha : Boxed W Ba 3 (.int .i64 a)) (hb : Boxed W Bb 3 (.int .i64 b)) (ho : Boxed W Bo 27 v) (hR : Kd.R k40 40 W w.heap.size (fun _ => True) v rs) (hB : Below w.heap.size w W)
  (hab : Ba ≠ Bb) (hao : Ba ≠ Bo) (hbo : Bb ≠ Bo) (ga : w.heap.size ≤ Ba) (gb : w.heap.size ≤ Bb) (go : w.heap.size ≤ Bo) (i0 : 0 ≤ i) (i1 : i ≤ 2000000000) (k0 : 0 ≤ k) (k1 : k ≤ 2000000000) (a0 : 0 ≤ a) (a1 : a ≤ 2000000001) (b0 : 0 ≤ b) (b1 : b ≤ 2000000001) (hl : rs.length ≤ 1000000000) :
  Calls Try.prog 25 #[.int .i64 i, .int .i64 k, .pointer (some ⟨Ba, 0, none⟩), .pointer (some ⟨Bb, 0, none⟩), .pointer (some ⟨Bo, 0, none⟩)] W fun e w' => (∃ u, e = .returned u) ∧ Boxed w' Ba 3 (.int .i64 (i + 1)) ∧ Boxed w' Bb 3 (.int .i64 (k + 1)) ∧
   ∃ v', Boxed w' Bo 27 v' ∧ Kd.R k40 40 w' w.heap.size (fun _ => True) v' (hunk_Of.up i k (rs, a, b)).1 ∧ Below w.heap.size w w' := by
 have hfin : ∀ (W2 : World) (v2 : Value) (rs2 : List S40), Boxed W2 Ba 3 (.int .i64 a) → Boxed W2 Bb 3 (.int .i64 b) → Boxed W2 Bo 27 v2 → Kd.R k40 40 W2 w.heap.size (fun _ => True) v2 rs2 → Below w.heap.size w W2 →
   let W3 := (W2.setCell ⟨Ba, 0, none⟩ (.int .i64 (i + 1))).setCell ⟨Bb, 0, none⟩ (.int .i64 (k + 1))
   Boxed W3 Ba 3 (.int .i64 (i + 1)) ∧ Boxed W3 Bb 3 (.int .i64 (k + 1)) ∧ Boxed W3 Bo 27 v2 ∧ Kd.R k40 40 W3 w.heap.size (fun _ => True) v2 rs2 ∧ Below w.heap.size w W3 := by
  intro W2 v2 rs2 h1 h2 h3 h4 h5
  have q1 := h1.set (.int .i64 (i + 1))
  have q2 : Boxed (W2.setCell ⟨Ba, 0, none⟩ (.int .i64 (i + 1))) Bb 3 (.int .i64 b) := hunk_Of.Bx_far h2 h1 (Ne.symm hab) _
  have q3 : Boxed (W2.setCell ⟨Ba, 0, none⟩ (.int .i64 (i + 1))) Bo 27 v2 := hunk_Of.Bx_far h3 h1 (Ne.symm hao) _
  exact ⟨hunk_Of.Bx_far q1 q2 hab _, q2.set _, hunk_Of.Bx_far q3 q2 (Ne.symm hbo) _, hunk_Of.Rk_set (hunk_Of.Rk_set h4 h1 (by decide) _) q2 (by decide) _, (h5.setCell (p := ⟨Ba, 0, none⟩) ga _).setCell (p := ⟨Bb, 0, none⟩) gb _⟩
 have wi : wrap64 (i + 1) = i + 1 := by unfold wrap64; omega
 have wk : wrap64 (k + 1) = k + 1 := by unfold wrap64; omega
 have wia : wrap64 (i - a) = i - a := by unfold wrap64; omega
 have wkb : wrap64 (k - b) = k - b := by unfold wrap64; omega
 have hF := Lib.hid hfin
 have ca := ha.cell
 have cb := hb.cell
 have co := ho.cell
 have fa := ha.frozen
 have fb := hb.frozen
 have fo := ho.frozen
 have hlb : (rs.length + 1) * 32 ≤ 140737488355328 := by omega
 clear hfin i0 i1 k0 k1 a0 a1 b0 b1 hl
 go_enter Try.func25, Try.ntmps25
 by_cases hc : i > a ∨ k > b
 ·have hup : (hunk_Of.up i k (rs, a, b)).1 = rs ++ [⟨a, i - a, b, k - b⟩] := by unfold hunk_Of.up; dsimp only; rw [if_pos hc]
  rw [hup]
  clear hup
  by_cases hc1 : i > a
  ·go_wp2_with ((with_reducible refine gate_builtin (b := .append) (xs := #[.tmp 15, .tmp 25]) rfl ?_); at_builtin; refine Kd.R_append k40 (w0 := w) (W := W) w.heap.size (by rfl) (.tmp 15) (.tmp 25) 27 40 (.agg #[(.int .i64 0), (.int .i64 0), (.int .i64 0), (.int .i64 0)]) 32 rfl Try.underlying27 info40 rfl (by decide) (by decide) v rs (⟨a, i - a, b, k - b⟩ : S40) [.int .i64 a, .int .i64 (i - a), .int .i64 b, .int .i64 (k - b)] (fun _ => True) (fun _ => False) rfl rfl (k40_mkM _ _ _ (⟨a, i - a, b, k - b⟩ : S40)) (fun _ hk => hk.elim) (fun _ _ => trivial) hR hB hB.size hlb ?_; refine Hid.out ?_)
   refine Lib.hid ?_
   intro v1 w1 HO1 hB1 hg1 _
   generalize hrs : rs ++ [(⟨a, i - a, b, k - b⟩ : S40)] = rs1 at HO1
   have HRS := Lib.hid hrs
   clear hrs
   obtain ⟨A1, c1, rfl⟩ := Kd.R_slice HO1
   have ha1 := ha.kept hg1 (hunk_Of.ne_own hR ha (by decide))
   have hb1 := hb.kept hg1 (hunk_Of.ne_own hR hb (by decide))
   have ho1 := ho.kept hg1 (hunk_Of.ne_own hR ho (by decide))
   have hlast := hF.out (w1.setCell ⟨Bo, 0, none⟩ (.slice A1 rs1.length c1)) _ rs1 (hunk_Of.Bx_far ha1 ho1 hao _) (hunk_Of.Bx_far hb1 ho1 hbo _) (ho1.set _) (hunk_Of.Rk_set HO1 ho1 (by decide) _) (hB1.setCell (p := ⟨Bo, 0, none⟩) go _)
   have HL := Lib.hid hlast
   have c1a := ha1.cell
   have c1b := hb1.cell
   have c1o := ho1.cell
   have f1a := ha1.frozen
   have f1b := hb1.frozen
   have f1o := ho1.frozen
   clear hlast HO1 hg1 hB1
   go_wp2
   go_end0
   obtain ⟨p1, p2, p3, p4, p5⟩ := HL.out
   exact ⟨⟨_, rfl⟩, p1, p2, _, p3, by rw [HRS.out]; exact p4, p5⟩
  ·have hc2 : k > b := hc.resolve_left hc1
   go_wp2_with ((with_reducible refine gate_builtin (b := .append) (xs := #[.tmp 15, .tmp 25]) rfl ?_); at_builtin; refine Kd.R_append k40 (w0 := w) (W := W) w.heap.size (by rfl) (.tmp 15) (.tmp 25) 27 40 (.agg #[(.int .i64 0), (.int .i64 0), (.int .i64 0), (.int .i64 0)]) 32 rfl Try.underlying27 info40 rfl (by decide) (by decide) v rs (⟨a, i - a, b, k - b⟩ : S40) [.int .i64 a, .int .i64 (i - a), .int .i64 b, .int .i64 (k - b)] (fun _ => True) (fun _ => False) rfl rfl (k40_mkM _ _ _ (⟨a, i - a, b, k - b⟩ : S40)) (fun _ hk => hk.elim) (fun _ _ => trivial) hR hB hB.size hlb ?_; refine Hid.out ?_)
   refine Lib.hid ?_
   intro v1 w1 HO1 hB1 hg1 _
   generalize hrs : rs ++ [(⟨a, i - a, b, k - b⟩ : S40)] = rs1 at HO1
   have HRS := Lib.hid hrs
   clear hrs
   obtain ⟨A1, c1, rfl⟩ := Kd.R_slice HO1
   have ha1 := ha.kept hg1 (hunk_Of.ne_own hR ha (by decide))
   have hb1 := hb.kept hg1 (hunk_Of.ne_own hR hb (by decide))
   have ho1 := ho.kept hg1 (hunk_Of.ne_own hR ho (by decide))
   have hlast := hF.out (w1.setCell ⟨Bo, 0, none⟩ (.slice A1 rs1.length c1)) _ rs1 (hunk_Of.Bx_far ha1 ho1 hao _) (hunk_Of.Bx_far hb1 ho1 hbo _) (ho1.set _) (hunk_Of.Rk_set HO1 ho1 (by decide) _) (hB1.setCell (p := ⟨Bo, 0, none⟩) go _)
   have HL := Lib.hid hlast
   have c1a := ha1.cell
   have c1b := hb1.cell
   have c1o := ho1.cell
   have f1a := ha1.frozen
   have f1b := hb1.frozen
   have f1o := ho1.frozen
   clear hlast HO1 hg1 hB1
   go_wp2
   go_end0
   obtain ⟨p1, p2, p3, p4, p5⟩ := HL.out
   exact ⟨⟨_, rfl⟩, p1, p2, _, p3, by rw [HRS.out]; exact p4, p5⟩
 ·have hup : (hunk_Of.up i k (rs, a, b)).1 = rs := by unfold hunk_Of.up; dsimp only; rw [if_neg hc]
  rw [hup]
  clear hup
  have hc1 : ¬ i > a := fun h => hc (.inl h)
  have hc2 : ¬ k > b := fun h => hc (.inr h)
  have HL := Lib.hid (hF.out W v rs ha hb ho hR hB)
  go_wp2
  go_end0
  obtain ⟨p1, p2, p3, p4, p5⟩ := HL.out
  exact ⟨⟨_, rfl⟩, p1, p2, _, p3, p4, p5⟩
def hunk_Of.go : List Int → Nat → List S40 × Int × Int → Option (List S40 × Int × Int)
 | [], _, s => some s
 | k :: l, i, s => if 0 ≤ k then (if k ≤ 2000000000 then hunk_Of.go l (i + 1) (hunk_Of.up i k s) else none) else hunk_Of.go l (i + 1) s
def hunk_Of.f (k : Nat) (l0 : List Int) (a1 : Int) : Option (List S40) :=
 if l0.length ≤ 1000000 ∧ a1 ≤ 2000000000 then
  (hunk_match.f k l0 a1).bind fun ok => if ok = true then (if 0 ≤ a1 then (hunk_Of.go l0 0 ([], 0, 0)).bind fun s => some (hunk_Of.up l0.length a1 s).1 else none) else some []
 else none
theorem hunk_Of.mono : ∀ a0 a1 k, LeO (hunk_Of.f k a0 a1) (hunk_Of.f (k + 1) a0 a1) := by
 intro l0 a1 k r h
 unfold hunk_Of.f at h ⊢
 split at h
 case isFalse => cases h
 rename_i h0
 rw [if_pos h0]
 obtain ⟨ok, h1, h⟩ := Option.bind_eq_some_iff.1 h
 rw [hunk_match.mono _ _ k ok h1, Option.bind_some]
 exact h
set_option maxHeartbeats 4000000 in
set_option maxRecDepth 100000 in
theorem hunk_Of.calls (k : Nat) (A0 : Option Addr) (c0 : Nat) (l0 : List Int) (a1 : Int) (r : List S40) (w : World) (hr0 : Kd.C (Kd.int .i64) w A0 l0.length l0) (hc0 : l0.length ≤ c0) (h : hunk_Of.f k l0 a1 = some r) :
  Calls Try.prog 9 #[.slice A0 l0.length c0, .int .i64 a1] w fun e w' => ∃ v0_ : Value, e = .returned v0_ ∧ Kd.R k40 40 w' w.heap.size (fun _ => True) v0_ r ∧ Below w.heap.size w w' := by
 unfold hunk_Of.f at h
 split at h
 case isFalse => cases h
 rename_i hz
 obtain ⟨z0, z1⟩ := hz
 obtain ⟨ok, hmt, h⟩ := Option.bind_eq_some_iff.1 h
 go_enter Try.func9, Try.ntmps9
 cases ok with
 | false =>
  rw [if_neg (by decide)] at h
  cases h
  go_wp2_with (go_at_call 24; refine (hunk_match.calls k _ _ _ _ false _ hr0 hc0 hmt).mono ?_; rintro e w' ⟨rfl, hB⟩)
  go_ret
  exact ⟨_, rfl, Kd.R_nil _ _ _ _ _, hB⟩
 | true =>
  rw [if_pos rfl] at h
  split at h
  case isFalse => cases h
  rename_i z2
  obtain ⟨s, hs, h⟩ := Option.bind_eq_some_iff.1 h
  cases h
  have HS := Lib.hid hs
  have Z0 := Lib.hid z0
  clear hs
  go_wp2_with (go_at_call 24; refine (hunk_match.calls k _ _ _ _ true _ hr0 hc0 hmt).mono ?_; rintro e w' ⟨rfl, hB⟩)
  have pO := ((Boxed.new w' 27 (.slice none 0 0)).alloc (.cells #[.int .i64 0] 3)).alloc (.cells #[.int .i64 0] 3)
  have pA := (Boxed.new (w'.alloc (.cells #[.slice none 0 0] 27)) 3 (.int .i64 0)).alloc (.cells #[.int .i64 0] 3)
  have pB := Boxed.new ((w'.alloc (.cells #[.slice none 0 0] 27)).alloc (.cells #[.int .i64 0] 3)) 3 (.int .i64 0)
  simp only [World.size_alloc] at pA pB
  have hB3 : Below w.heap.size w (((w'.alloc (.cells #[.slice none 0 0] 27)).alloc (.cells #[.int .i64 0] 3)).alloc (.cells #[.int .i64 0] 3)) := ((hB.alloc hB.size _).alloc (by simp; exact Nat.le_succ_of_le hB.size) _).alloc (by simp; exact Nat.le_succ_of_le (Nat.le_succ_of_le hB.size)) _
  have g0 := hB.size
  generalize ((w'.alloc (.cells #[.slice none 0 0] 27)).alloc (.cells #[.int .i64 0] 3)).alloc (.cells #[.int .i64 0] 3) = W3 at pO pA pB hB3 ⊢
  obtain ⟨Bo, hBo⟩ : ∃ b, w'.heap.size = b := ⟨_, rfl⟩
  rw [hBo] at pO pA pB g0 ⊢
  obtain ⟨Ba, hBa⟩ : ∃ b, Bo + 1 = b := ⟨_, rfl⟩
  rw [hBa] at pA pB ⊢
  obtain ⟨Bb, hBb⟩ : ∃ b, Ba + 1 = b := ⟨_, rfl⟩
  rw [hBb] at pB ⊢
  have gA : w.heap.size ≤ Ba := by omega
  have gB : w.heap.size ≤ Bb := by omega
  have nab : Ba ≠ Bb := by omega
  have nao : Ba ≠ Bo := by omega
  have nbo : Bb ≠ Bo := by omega
  clear hBo hBa hBb hB
  clear w'
  have HM := Lib.hid z1
  have HM2 := Lib.hid z2
  clear z1 z2 hmt
  go_loopw [18] (fun p wr => ∃ (i : Nat) (u : List S40) (a b : Int) (v : Value), p = .int .i64 (i : Int) ∧ i ≤ l0.length ∧ hunk_Of.go (l0.drop i) i (u, a, b) = some s ∧ Boxed wr Ba 3 (.int .i64 a) ∧ Boxed wr Bb 3 (.int .i64 b) ∧ Boxed wr Bo 27 v ∧ Kd.R k40 40 wr w.heap.size (fun _ => True) v u ∧ Below w.heap.size w wr ∧ 0 ≤ a ∧ a ≤ 2000000001 ∧ 0 ≤ b ∧ b ≤ 2000000001 ∧ u.length ≤ i) (fun p _ => l0.length - (Lib.intOf p).toNat)
  case atStart => exact ⟨0, [], 0, 0, _, rfl, Nat.zero_le _, HS.out, pA, pB, pO, Kd.R_nil _ _ _ _ _, hB3, by decide, by decide, by decide, by decide, Nat.le_refl _⟩
  case round =>
   clear pO pA pB hB3 HS
   obtain ⟨i, u, a, b, v, rfl, hi, hs, qA, qB, qO, hR, hB, a0, a1', b0, b1', hul⟩ := hrel
   have HA := Lib.hid (show 0 ≤ a ∧ a ≤ 2000000001 ∧ 0 ≤ b ∧ b ≤ 2000000001 ∧ u.length ≤ i from ⟨a0, a1', b0, b1', hul⟩)
   clear a0 a1' b0 b1' hul
   by_cases hlt : i < l0.length
   ·obtain ⟨ad, e, hm⟩ := Kd.at_int (Kd.C_below hr0 hB) (i : Int) (by omega) (by omega)
    cases e
    simp only [Int.toNat_natCast] at hm
    obtain ⟨x, hx⟩ : ∃ x, rd l0 (i : Int) = x := ⟨_, rfl⟩
    rw [hx] at hm
    have hd : l0.drop i = x :: l0.drop (i + 1) := by
     rw [List.drop_eq_getElem_cons hlt, ← hx]
     show _ = l0.getD i 0 :: _
     rw [List.getD_eq_getElem?_getD, List.getElem?_eq_getElem hlt]; rfl
    rw [hd, hunk_Of.go] at hs
    clear hd hx
    have hil : i ≤ 1000000 := by have := Z0.out; omega
    by_cases h0 : 0 ≤ x
    ·rw [if_pos h0] at hs
     split at hs
     case isFalse => cases hs
     rename_i h1
     have HS := Lib.hid hs
     clear hs
     have hup := hunk_Of.upto Ba Bb Bo (i : Int) x a b v u w wr qA qB qO hR hB nab nao nbo gA gB g0 (by omega) (by omega) h0 h1 HA.out.1 HA.out.2.1 HA.out.2.2.1 HA.out.2.2.2.1 (by have := HA.out.2.2.2.2; omega)
     have HU := Lib.hid hup
     have H1 := Lib.hid h1
     clear hup h1 hil
     go_wp2_with (go_at_call 25; refine HU.out.mono ?_; rintro e w' ⟨⟨v9, rfl⟩, qA', qB', v', qO', hR', hB'⟩)
     have h1 := H1.out
     refine ⟨⟨i + 1, _, (i : Int) + 1, x + 1, v', by simp, by omega, HS.out, qA', qB', qO', hR', hB', by omega, by have := Z0.out; omega, by omega, by omega, ?_⟩, by simp [Lib.intOf]; omega⟩
     have hul := HA.out.2.2.2.2
     dsimp only
     split
     ·rw [List.length_append]; simp only [List.length_cons, List.length_nil]; omega
     ·omega
    ·rw [if_neg h0] at hs
     have HS := Lib.hid hs
     clear hs
     go_wp2
     obtain ⟨a0, a1', b0, b1', hul⟩ := HA.out
     exact ⟨⟨i + 1, u, a, b, v, by simp, by omega, HS.out, qA, qB, qO, hR, hB, a0, a1', b0, b1', by omega⟩, by simp [Lib.intOf]; omega⟩
   ·obtain rfl : i = l0.length := by omega
    rw [List.drop_length, hunk_Of.go] at hs
    cases hs
    obtain ⟨a0, a1', b0, b1', hul⟩ := HA.out
    have hup := hunk_Of.upto Ba Bb Bo (l0.length : Int) a1 a b v u w wr qA qB qO hR hB nab nao nbo gA gB g0 (by omega) (by have := Z0.out; omega) HM2.out HM.out a0 a1' b0 b1' (by have := Z0.out; omega)
    have HU := Lib.hid hup
    clear hup a0 a1' b0 b1' hul
    go_wp2_with (go_at_call 25; refine HU.out.mono ?_; rintro e w' ⟨⟨v9, rfl⟩, qA', qB', v', qO', hR', hB'⟩; have cO' := qO'.cell)
    go_ret
    exact ⟨_, rfl, hR', hB'⟩
/-! ### lcs_Numbers: function 32 -/
def lcs_Numbers.has (l : List ByteArray) (s : ByteArray) : Bool := l.any (fun t => t.data.toList == s.data.toList)
def lcs_Numbers.ix (l : List ByteArray) (s : ByteArray) : Nat := l.findIdx (fun t => t.data.toList == s.data.toList)
mutual
def lcs_Numbers.l0 : Nat → List (List ByteArray) → List ByteArray → List (List Int) → Int → Option ((List (List Int)))
 | 0, _, _, _, _ => none
 | k + 1, x0, x3, x4, x15 => if x15 < (x0.length : Int) then (if 0 ≤ x15 then (lcs_Numbers.l1 k x0 x3 x4 x15 ([] : List Int) 0) else (none)) else (some x4)
def lcs_Numbers.l1 : Nat → List (List ByteArray) → List ByteArray → List (List Int) → Int → List Int → Int → Option ((List (List Int)))
 | 0, _, _, _, _, _, _ => none
 | k + 1, x0, x3, x4, x15, x7, x21 => if x21 < ((rd_L5 x0 x15).length : Int) then (if 0 ≤ x21 then (if (rdOf ByteArray.empty (rd_L5 x0 x15) x21).size ≤ 140737488355328 then (if x7.length < 17592186044416 then (if x3.length < 17592186044416 then (if lcs_Numbers.has x3 (rdOf ByteArray.empty (rd_L5 x0 x15) x21) = true then (lcs_Numbers.l1 k x0 x3 x4 x15 (x7 ++ [(lcs_Numbers.ix x3 (rdOf ByteArray.empty (rd_L5 x0 x15) x21) : Int)]) (wrap64 (x21 + 1))) else (lcs_Numbers.l1 k x0 (x3 ++ [rdOf ByteArray.empty (rd_L5 x0 x15) x21]) x4 x15 (x7 ++ [(x3.length : Int)]) (wrap64 (x21 + 1)))) else (none)) else (none)) else (none)) else (none)) else (if x4.length < 5864062014805 then (lcs_Numbers.l0 k x0 x3 (x4 ++ [x7]) (wrap64 (x15 + 1))) else (none))
end
def lcs_Numbers.f (k : Nat) (l0 : List (List ByteArray)) : Option ((List (List Int))) := lcs_Numbers.l0 k l0 ([] : List ByteArray) ([] : List (List Int)) 0
theorem lcs_Numbers.mono_l : ∀ k, (∀ y0 y1 y2 y3, LeO (lcs_Numbers.l0 k y0 y1 y2 y3) (lcs_Numbers.l0 (k + 1) y0 y1 y2 y3)) ∧ (∀ y0 y1 y2 y3 y4 y5, LeO (lcs_Numbers.l1 k y0 y1 y2 y3 y4 y5) (lcs_Numbers.l1 (k + 1) y0 y1 y2 y3 y4 y5))
 | 0 => ⟨fun _ _ _ _ r h => by simp [lcs_Numbers.l0] at h, fun _ _ _ _ _ _ r h => by simp [lcs_Numbers.l1] at h⟩
 | k + 1 => by
  obtain ⟨ih0, ih1⟩ := lcs_Numbers.mono_l k
  refine ⟨?_, ?_⟩
  ·intro y0 y1 y2 y3
   unfold lcs_Numbers.l0
   repeat' first
   | (with_reducible exact ih0 _ _ _ _)
   | (with_reducible exact ih1 _ _ _ _ _ _)
   | (with_reducible exact LeO.refl _)
   | (with_reducible exact LeO.none _)
   | (with_reducible refine LeO.ite ?_ ?_)
  ·intro y0 y1 y2 y3 y4 y5
   unfold lcs_Numbers.l1
   repeat' first
   | (with_reducible exact ih0 _ _ _ _)
   | (with_reducible exact ih1 _ _ _ _ _ _)
   | (with_reducible exact LeO.refl _)
   | (with_reducible exact LeO.none _)
   | (with_reducible refine LeO.ite ?_ ?_)
theorem lcs_Numbers.mono : ∀ a0 k, LeO (lcs_Numbers.f k a0) (lcs_Numbers.f (k + 1) a0) := fun _ k => (lcs_Numbers.mono_l k).1 _ _ _ _
/-! the map, as the list of what was seen -/
def lcs_Numbers.Is (D : DataW Unit) (l : List ByteArray) : Prop :=
 Maps.Tidy D ∧ Maps.size D = l.length ∧ ∀ s : ByteArray, Maps.has D (.string s.data.toList) = lcs_Numbers.has l s ∧ (lcs_Numbers.has l s = true → D.atKey (.string s.data.toList) (.lit (.int .i64 0)) = .lit (.int .i64 (lcs_Numbers.ix l s)))
theorem lcs_Numbers.is_nil : lcs_Numbers.Is (.map []) [] := ⟨Maps.tidy_empty, rfl, fun s => ⟨rfl, fun h => by simp [lcs_Numbers.has] at h⟩⟩
theorem lcs_Numbers.is_put {D : DataW Unit} {l : List ByteArray} {s : ByteArray} (h : lcs_Numbers.Is D l) (hn : lcs_Numbers.has l s = false) :
  lcs_Numbers.Is (D.put (.string s.data.toList) (.lit (.int .i64 (l.length : Int)))) (l ++ [s]) := by
 obtain ⟨h1, h2, h3⟩ := h
 have hk : WideAt.IsKeyLit (.string s.data.toList) := trivial
 refine ⟨h1.put hk _, ?_, fun t => ?_⟩
 ·rw [Maps.size_put h1, (h3 s).1, hn, h2]; simp
 ·by_cases e : t.data.toList = s.data.toList
  ·rw [e, Maps.has_put_same h1.isMap hk, Maps.atKey_put_same h1.isMap hk]
   have hn' : lcs_Numbers.has l t = false := by rw [← hn]; simp [lcs_Numbers.has, e]
   refine ⟨by simp [lcs_Numbers.has, e], fun _ => ?_⟩
   have : lcs_Numbers.ix (l ++ [s]) t = l.length := by
    unfold lcs_Numbers.ix
    rw [List.findIdx_append, if_neg]
    ·simp [List.findIdx_cons, e]
    ·unfold lcs_Numbers.has at hn'
     simp only [List.any_eq_false] at hn'
     intro hc
     obtain ⟨x, hx, hp⟩ := List.findIdx_lt_length.1 hc
     exact hn' x hx hp
   rw [this]
  ·have e' : (Lit.string t.data.toList) ≠ .string s.data.toList := fun h => e (by injection h)
   rw [Maps.has_put_other e', Maps.atKey_put_other e', (h3 t).1]
   have hb : (s.data.toList == t.data.toList) = false := beq_eq_false_iff_ne.2 (Ne.symm e)
   have hh : lcs_Numbers.has (l ++ [s]) t = lcs_Numbers.has l t := by
    unfold lcs_Numbers.has
    rw [List.any_append, List.any_cons, List.any_nil, hb, Bool.or_false, Bool.or_false]
   refine ⟨hh.symm, fun ht => ?_⟩
   have ht' : lcs_Numbers.has l t = true := hh ▸ ht
   rw [(h3 t).2 ht']
   have : lcs_Numbers.ix (l ++ [s]) t = lcs_Numbers.ix l t := by
    unfold lcs_Numbers.ix
    rw [List.findIdx_append, if_pos]
    unfold lcs_Numbers.has at ht'
    rw [List.any_eq_true] at ht'
    exact List.findIdx_lt_length.2 ht'
   rw [this]
theorem lcs_Numbers.mapBlock {P : Program} {key : TypeId} {R : Value → Option (DataW Unit × List MemPlace)} {w : World} {b n : Nat} {D : DataW Unit} (h : w.ownsMap P key R b n D) : ∃ es clock, w.heap[b]? = some (.map es clock) := by
 obtain ⟨es, clock, hb, _⟩ := h
 exact ⟨es, clock, hb⟩
theorem lcs_Numbers.map_ne {P : Program} {key : TypeId} {R : Value → Option (DataW Unit × List MemPlace)} {w : World} {b n e : Nat} {D : DataW Unit} {v : Value} (h : w.ownsMap P key R b n D) (hv : ∀ k, v.ownBlock = some k → ∃ cells, w.heap[k]? = some (.cells cells e (0, 0))) : some b ≠ v.ownBlock := by
 obtain ⟨es, clock, hb⟩ := lcs_Numbers.mapBlock h
 intro he
 obtain ⟨cells, hc⟩ := hv b he.symm
 rw [hb] at hc
 cases hc
theorem lcs_Numbers.row_keeps {α : Type} {d : Kd α} {e : Nat} {w w1 : World} {base : Nat} {ok : Nat → Prop} {v : Value} {xs : List α} {P : Program} {key : TypeId} {R : Value → Option (DataW Unit × List MemPlace)} {b n : Nat} {D : DataW Unit}
  (h : d.R e w base ok v xs) (hm : w.ownsMap P key R b n D) (hg : w.grownBy w1 (some b)) : d.R e w1 base ok v xs := by
 obtain ⟨es, clock, hb⟩ := lcs_Numbers.mapBlock hm
 refine Kd.R_mono (Kd.R_move (Kd.R_bound h) (fun k hk => hg.block k hk.2.2.1 (fun he => ?_))) (fun _ hk => hk.1)
 obtain ⟨_, _, _, q, hq, cells, hc⟩ := hk
 injection he with he
 subst he
 rw [hb] at hc
 cases hc
theorem lcs_Numbers.rows_keep {α : Type} {d : Kd α} {e : Nat} {w w1 : World} {base : Nat} {ok : Nat → Prop} {v : Value} {xs : List α} {P : Program} {key : TypeId} {R : Value → Option (DataW Unit × List MemPlace)} {b n : Nat} {D : DataW Unit}
  (h : Kd.S d e w base ok v xs) (hm : w.ownsMap P key R b n D) (hg : w.grownBy w1 (some b)) : Kd.S d e w1 base ok v xs := by
 obtain ⟨f, h⟩ := h
 exact ⟨f, lcs_Numbers.row_keeps h hm hg⟩
def lcs_Numbers.At (w : World) (b : Nat) (l : List ByteArray) : Prop := ∃ D : DataW Unit, w.ownsMap Try.prog 9 (plainElem Try.prog 3) b l.length D ∧ lcs_Numbers.Is D l
theorem lcs_Numbers.At.grown {w w1 : World} {b : Nat} {l : List ByteArray} {row : Option Nat} (h : lcs_Numbers.At w b l) (hg : w.grownBy w1 row) (hne : some b ≠ row) : lcs_Numbers.At w1 b l := by
 obtain ⟨D, ho, hi⟩ := h
 exact ⟨D, ho.kept hg hne, hi⟩
theorem lcs_Numbers.At.alloc {w : World} {b : Nat} {l : List ByteArray} (h : lcs_Numbers.At w b l) (o : Obj) : lcs_Numbers.At (w.alloc o) b l := by
 obtain ⟨D, ho, hi⟩ := h
 exact ⟨D, ho.alloc o, hi⟩
theorem lcs_Numbers.law : Maps.Keyed Try.prog 9 := Maps.string_keyed Try.underlying9
theorem lcs_Numbers.zero (w : World) : (zeroValue 3).run Try.prog w = .ok (.int .i64 0) w := by kernel_rfl
set_option maxHeartbeats 8000000 in
set_option maxRecDepth 100000 in
theorem lcs_Numbers.calls (k : Nat) (A0 : Option Addr) (c0 : Nat) (l0 : List (List ByteArray)) (r : List (List Int)) (w : World) (hr0 : Kd.C (Kd.slice 9 Kd.string) w A0 l0.length l0) (hc0 : l0.length ≤ c0) (h : lcs_Numbers.f k l0 = some r) :
  Calls Try.prog 32 #[.slice A0 l0.length c0] w fun e w' => ∃ v0_ : Value, e = .returned (v0_) ∧ Kd.S (Kd.slice 3 (Kd.int .i64)) 22 w' w.heap.size (fun _ => True) v0_ r ∧ Below w.heap.size w w' := by
 have HR0 := Zm hr0
 have HC0 := Zm hc0
 clear hr0 hc0
 have hmm := @run_makeMap Try.prog
 have H' := Zm (show lcs_Numbers.l0 k l0 ([] : List ByteArray) ([] : List (List Int)) 0 = some r from h)
 clear h
 go_enter Try.func32, Try.ntmps32
 go_wp2
 go_loopg [4, 15] k (fun kq v4 v15 w' => ∃ (x3 : List ByteArray) (x4 : List (List Int)) (x15 : Int), v15 = .int .i64 x15 ∧ Aside0 (lcs_Numbers.l0 kq l0 x3 x4 x15 = some r) ∧ Aside0 (kq ≤ k) ∧ Aside0 (lcs_Numbers.At w' w.heap.size x3) ∧ Aside0 (Kd.S (Kd.slice 3 (Kd.int .i64)) 22 w' w.heap.size (fun _ => True) v4 x4) ∧ Aside0 (Below w.heap.size w w'))
 case atStart => exact ⟨[], [], 0, rfl, H', ⟨Nat.le_refl _⟩, ⟨⟨_, World.ownsMap_made _ _ _ _, lcs_Numbers.is_nil⟩⟩, ⟨Kd.S_nil _ _ _ _ _⟩, ⟨(Below.refl _ _).alloc (Nat.le_refl _) _⟩⟩
 case round =>
  clear H' hmm
  obtain ⟨x3, x4, x15, rfl, HA, HK1, HM, HO4, HB⟩ := hrel
  cases gk with
  | zero => exact absurd HA.out (by simp [lcs_Numbers.l0])
  | succ k1 =>
   have H := HA.out
   clear HA
   simp only [lcs_Numbers.l0] at H
   by_cases c1 : x15 < (l0.length : Int)
   ·rw [if_pos c1] at H
    by_cases c2 : 0 ≤ x15
    ·rw [if_pos c2] at H
     have H' := Zm H
     clear H
     obtain ⟨ad, A1, cc1, e1, hx1, hl1, hi1⟩ := at_L5 HR0.out x15 c2 c1
     cases e1
     replace hx1 := (HB.out.cell (World.block_lt_of_cell? w _ hx1)).trans hx1
     have HR1 := Zm hi1
     clear hi1 hl1
     have c1b : decide (x15 < (l0.length : Int)) = true := decide_eq_true c1
     have c2b : decide (0 ≤ x15) = true := decide_eq_true c2
     replace c1 := eq_true c1
     replace c2 := eq_true c2
     go_wp2
     go_loopg [7, 21] k1 (fun kq v7 v21 w' => ∃ (x3' : List ByteArray) (x7 : List Int) (x21 : Int), v21 = .int .i64 x21 ∧ Aside0 (lcs_Numbers.l1 kq l0 x3' x4 x15 x7 x21 = some r) ∧ Aside0 (kq ≤ k1) ∧ Aside0 (lcs_Numbers.At w' w.heap.size x3') ∧ Aside0 (Kd.S (Kd.slice 3 (Kd.int .i64)) 22 w' w.heap.size (fun k_ => some k_ ≠ (v7 : Value).ownBlock) u4 x4) ∧ Aside0 (Kd.R (Kd.int .i64) 3 w' w.heap.size (fun _ => True) v7 x7) ∧ Aside0 (Below w.heap.size w w'))
     case atStart => exact ⟨x3, [], 0, rfl, H', ⟨Nat.le_refl _⟩, ⟨HM.out⟩, ⟨Kd.S_mono HO4.out (fun _ _ => by simp [Value.ownBlock])⟩, ⟨Kd.R_nil _ _ _ _ _⟩, ⟨HB.out⟩⟩
     case round =>
      clear H' hx1
      obtain ⟨x3, x7, x21, rfl, HA, HK2, HM, HO4, HO7, HB⟩ := hrel
      cases gk with
      | zero => exact absurd HA.out (by simp [lcs_Numbers.l1])
      | succ k2 =>
       have H := HA.out
       clear HA
       simp only [lcs_Numbers.l1] at H
       by_cases c3 : x21 < ((rd_L5 l0 x15).length : Int)
       ·rw [if_pos c3] at H
        by_cases c4 : 0 ≤ x21
        ·rw [if_pos c4] at H
         obtain ⟨ad2, e2, hx2⟩ := Kd.at_string HR1.out x21 c4 c3
         cases e2
         replace hx2 := (HB.out.cell (World.block_lt_of_cell? w _ hx2)).trans hx2
         generalize rdOf ByteArray.empty (rd_L5 l0 x15) x21 = s at H hx2
         by_cases c5 : s.size ≤ 140737488355328
         ·rw [if_pos c5] at H
          by_cases c6 : x7.length < 17592186044416
          ·rw [if_pos c6] at H
           by_cases c7 : x3.length < 17592186044416
           ·rw [if_pos c7] at H
            obtain ⟨D, hown, hD⟩ := HM.out
            have hkey : keyOf Try.prog 9 (.string s) = some (.string s.data.toList) := Go.WideMaps.keyOf_string_mk Try.underlying9 (by unfold maxLen; omega)
            have HS := Zm hD
            have LM6 := Zm c6
            have LM7 := Zm c7
            clear hD c6 c7 c5
            have c3b : decide (x21 < ((rd_L5 l0 x15).length : Int)) = true := decide_eq_true c3
            have c4b : decide (0 ≤ x21) = true := decide_eq_true c4
            replace c3 := eq_true c3
            replace c4 := eq_true c4
            by_cases c8 : lcs_Numbers.has x3 s = true
            ·rw [if_pos c8] at H
             have hh : Maps.has D (.string s.data.toList) = true := (HS.out.2.2 s).1.trans c8
             have hat0 := Zm ((HS.out.2.2 s).2 c8)
             clear c8
             have H' := Zm H
             clear H
             go_wp2_with (first
              | (at_lookup; refine wpList_lookup_own_ok_int _ rfl _ _ 60 rfl 9 3 .i64 lcs_Numbers.law Try.underlying60 Try.underlying3 (lcs_Numbers.zero _) w.heap.size _ D rfl hown _ _ rfl hkey ?_; intro c hat hwc; obtain rfl : (lcs_Numbers.ix x3 s : Int) = c := (by have h_ := hat0.out.symm.trans hat; injection h_ with h_; injection h_); clear hat hwc)
              | ((with_reducible refine gate_builtin (b := .append) (xs := #[.tmp 38, .tmp 40]) rfl ?_); at_builtin; refine Kd.R_append (Kd.int .i64) (w0 := w) w.heap.size rfl (.tmp 38) (.tmp 40) 22 3 (.int .i64 0) 8 rfl Try.underlying22 info3 rfl (by decide) (by omega) u7 x7 (lcs_Numbers.ix x3 s : Int) [.int .i64 (lcs_Numbers.ix x3 s : Int)] (fun _ => True) (fun _ => False) rfl rfl rfl (fun _ hk => hk.elim) (fun _ _ => trivial) HO7.out HB.out (below_size HB.out) (by have := LM6.out; omega) ?_; intro v7 w7 ho hb hg hat))
             have hm1 := (show lcs_Numbers.At wr w.heap.size x3 from ⟨D, hown, HS.out⟩).alloc (.cells [Value.int .i64 (lcs_Numbers.ix x3 s : Int)].toArray 3)
             have hne := lcs_Numbers.map_ne hown (Kd.R_typed HO7.out)
             go_roundg k2
             case measure => have := HK2.out; omega
             case rel => exact ⟨x3, x7 ++ [(lcs_Numbers.ix x3 s : Int)], wrap64 (x21 + 1), rfl, H', ⟨by have := HK2.out; omega⟩, ⟨HM.out.grown hg hne⟩, ⟨Kd.S_mono (Kd.S_after (ok := fun _ => True) (Kd.S_mono HO4.out (fun _ hk => ⟨trivial, hk⟩)) hg hat) (fun _ hk => hk.2)⟩, ⟨ho⟩, ⟨hb⟩⟩
            ·rw [if_neg c8] at H
             have c8' : lcs_Numbers.has x3 s = false := Bool.eq_false_iff.2 c8
             have hh : Maps.has D (.string s.data.toList) = false := (HS.out.2.2 s).1.trans c8'
             have HC8 := Zm c8'
             have hsz := Zm HS.out.2.1
             clear c8 c8'
             have H' := Zm H
             clear H
             go_wp2_with (first
              | (at_lookup; refine wpList_lookup_own_ok_int _ rfl _ _ 60 rfl 9 3 .i64 lcs_Numbers.law Try.underlying60 Try.underlying3 (lcs_Numbers.zero _) w.heap.size _ D rfl hown _ _ rfl hkey ?_; intro c hat hwc; clear hat hwc)
              | (at_len; refine wpList_len_own _ rfl _ 60 rfl 9 3 Try.underlying60 _ w.heap.size _ D rfl hown ?_; rw [hsz.out])
              | (at_mapUpdate; refine wpList_mapUpdate_own _ rfl _ _ _ 60 rfl 9 3 lcs_Numbers.law Try.underlying60 _ w.heap.size _ D rfl hown (by have := LM7.out; unfold maxLen; omega) _ _ _ rfl rfl hkey _ [] (plainElem_int Try.underlying3 (WalkArith.wf_i64 (by have := LM7.out; omega))) ?_; intro w1 hown1 hg1; have n4_ := Zm (lcs_Numbers.rows_keep HO4.out hown hg1); have n7_ := Zm (lcs_Numbers.row_keeps HO7.out hown hg1); have nb_ := Zm (HB.out.grown hg1 HB.out.size (fun k_ e_ => by cases e_; exact Nat.le_refl _)); clear HO4 HO7 HB; have HO4 := n4_; have HO7 := n7_; have HB := nb_; clear n4_ n7_ nb_)
              | ((with_reducible refine gate_builtin (b := .append) (xs := #[.tmp 38, .tmp 40]) rfl ?_); at_builtin; refine Kd.R_append (Kd.int .i64) (w0 := w) w.heap.size rfl (.tmp 38) (.tmp 40) 22 3 (.int .i64 0) 8 rfl Try.underlying22 info3 rfl (by decide) (by omega) u7 x7 (x3.length : Int) [.int .i64 (x3.length : Int)] (fun _ => True) (fun _ => False) rfl rfl rfl (fun _ hk => hk.elim) (fun _ _ => trivial) HO7.out HB.out (below_size HB.out) (by have := LM6.out; omega) ?_; intro v7 w7 ho hb hg hat))
             have hne := lcs_Numbers.map_ne hown1 (Kd.R_typed HO7.out)
             have hm1 : lcs_Numbers.At w1 w.heap.size (x3 ++ [s]) := ⟨_, (by rw [List.length_append]; exact hown1), lcs_Numbers.is_put HS.out HC8.out⟩
             go_roundg k2
             case measure => have := HK2.out; omega
             case rel => exact ⟨x3 ++ [s], x7 ++ [(x3.length : Int)], wrap64 (x21 + 1), rfl, H', ⟨by have := HK2.out; omega⟩, ⟨hm1.grown hg hne⟩, ⟨Kd.S_mono (Kd.S_after (ok := fun _ => True) (Kd.S_mono HO4.out (fun _ hk => ⟨trivial, hk⟩)) hg hat) (fun _ hk => hk.2)⟩, ⟨ho⟩, ⟨hb⟩⟩
           ·rw [if_neg c7] at H
            exact absurd H (by simp)
          ·rw [if_neg c6] at H
           exact absurd H (by simp)
         ·rw [if_neg c5] at H
          exact absurd H (by simp)
        ·rw [if_neg c4] at H
         exact absurd H (by simp)
       ·rw [if_neg c3] at H
        have c3b : decide (x21 < ((rd_L5 l0 x15).length : Int)) = false := decide_eq_false c3
        clear c3
        by_cases c6 : x4.length < 5864062014805
        ·rw [if_pos c6] at H
         have LM6 := Zm c6
         clear c6
         have H' := Zm H
         clear H
         have hty := Zm (Kd.S_typed HO4.out)
         obtain ⟨Ao, co, eo⟩ := Kd.R_slice HO7.out
         subst eo
         go_wp2_with ((with_reducible refine gate_builtin (b := .append) (xs := #[.tmp 43, .tmp 45]) rfl ?_); at_builtin; refine Kd.S_append (Kd.slice 3 (Kd.int .i64)) (w0 := w) w.heap.size rfl (.tmp 43) (.tmp 45) 43 22 (.slice none 0 0) 24 rfl Try.underlying43 info22 rfl (by decide) (by omega) u4 x4 x7 [.slice Ao x7.length co] (fun _ => True) (fun k_ => some k_ = (.slice Ao x7.length co : Value).ownBlock) rfl rfl ?aP (fun k_ hk_ => ((Kd.R_mono (ok' := fun k_ => ((fun _ => True)) k_ ∧ some k_ ≠ (u4 : Value).ownBlock) (Kd.R_apart' (HO7.out) (Kd.S_typed HO4.out) (by decide)) (fun k_ hk => ⟨trivial, hk.2⟩))).1 k_ hk_.symm) (fun _ _ => trivial) (Kd.S_mono HO4.out (fun k_ hk => ⟨trivial, fun e_ => hk e_⟩)) HB.out (below_size HB.out) (by have := LM6.out; omega) ?_; (case aP => exact Kd.M_row (Kd.R_mono (Kd.R_tight rfl (Kd.R_mono (ok' := fun k_ => ((fun _ => True)) k_ ∧ some k_ ≠ (u4 : Value).ownBlock) (Kd.R_apart' (HO7.out) (Kd.S_typed HO4.out) (by decide)) (fun k_ hk => ⟨trivial, hk.2⟩))) (fun _ h_ => h_))); intro v4 w4 ho hb hg hat)
         have hne : some w.heap.size ≠ (u4 : Value).ownBlock := by obtain ⟨D, hown, _⟩ := HM.out; exact lcs_Numbers.map_ne hown hty.out
         go_roundg k2
         case measure => have := HK1.out; have := HK2.out; omega
         case rel => exact ⟨x3, x4 ++ [x7], wrap64 (x15 + 1), rfl, H', ⟨by have := HK1.out; have := HK2.out; omega⟩, ⟨HM.out.grown hg hne⟩, ⟨ho⟩, ⟨hb⟩⟩
        ·rw [if_neg c6] at H
         exact absurd H (by simp)
    ·rw [if_neg c2] at H
     exact absurd H (by simp)
   ·rw [if_neg c1] at H
    have c1b : decide (x15 < (l0.length : Int)) = false := decide_eq_false c1
    obtain rfl := Option.some.inj H
    go_wp2
    go_ret
    exact ⟨_, rfl, HO4.out, HB.out⟩
end Go.Proofs.Ytphghffdaceaoaa.PHunk
