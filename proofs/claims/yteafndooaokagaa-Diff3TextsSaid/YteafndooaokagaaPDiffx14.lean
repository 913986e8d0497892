/- Laid by a program of this session out of the seat's translation. -/
import Derived.Test.YteafndooaokagaaPDiffx0
import Derived.Test.YteafndooaokagaaPDiffx2
import Derived.Test.YteafndooaokagaaPDiffx13
namespace Go.Proofs.Yteafndooaokagaa.PDiff
open Go.RowKit Go.Proofs.YteafndooaokagaaW.PrintWords Go.Proofs.YteafndooaokagaaW.PrintLast Go.Proofs.YteafndooaokagaaW.PrintMore
attribute [local go_sem] max2_int min2_int max_two min_two max_three min_three max_four min_four   -- for this text's walks alone
set_option linter.unusedVariables false
set_option linter.unusedSimpArgs false
attribute [local go_sem high] eqA41
/-! ### r07_Clean: function 16 -/
def r07_Clean.l0 : Nat → List (S41) → Int → Option (Bool)
 | 0, _, _ => none
 | k + 1, x0, x3 => if x3 < (x0.length : Int) then (if 0 ≤ x3 then (if ((rd_T41 x0 x3).f0) = 4 then (some false) else (r07_Clean.l0 k x0 (wrap64 (x3 + 1)))) else (none)) else (some true)
def r07_Clean.f (k : Nat) (l0 : List (S41)) : Option (Bool) := r07_Clean.l0 k l0 0
theorem r07_Clean.mono_l : ∀ k, (∀ y0 y1, LeO (r07_Clean.l0 k y0 y1) (r07_Clean.l0 (k + 1) y0 y1))
 | 0 => fun _ _ r h => by simp [r07_Clean.l0] at h
 | k + 1 => by
  have ih0 := r07_Clean.mono_l k
  ·intro y0 y1
   unfold r07_Clean.l0
   repeat' first
   | (with_reducible exact ih0 _ _)
   | (with_reducible exact LeO.refl _)
   | (with_reducible exact LeO.none _)
   | (with_reducible refine LeO.ite ?_ ?_)
   | (with_reducible refine LeO.bind ?_ (fun _ => ?_))
   | exact ih0 _ _
   | exact LeO.none _
   | refine LeO.ite ?_ ?_
   | refine LeO.bind ?_ (fun _ => ?_)
theorem r07_Clean.mono : ∀ a0 k, LeO (r07_Clean.f k a0) (r07_Clean.f (k + 1) a0) := by
 intro a0 k
 have ih0 := r07_Clean.mono_l k
 unfold r07_Clean.f
 repeat' first
   | (with_reducible exact ih0 _ _)
   | (with_reducible exact LeO.refl _)
   | (with_reducible exact LeO.none _)
   | (with_reducible refine LeO.ite ?_ ?_)
   | (with_reducible refine LeO.bind ?_ (fun _ => ?_))
   | exact ih0 _ _
   | exact LeO.none _
   | refine LeO.ite ?_ ?_
   | refine LeO.bind ?_ (fun _ => ?_)
set_option maxHeartbeats 8000000 in
set_option maxRecDepth 100000 in
theorem r07_Clean.calls (k : Nat) (A0 : Option Addr) (c0 : Nat) (l0 : List (S41)) (r : Bool) (w : World) (hr0 : Kd.C k41 w A0 l0.length l0) (hc0 : l0.length ≤ c0) (h : r07_Clean.f k l0 = some r) :
  Calls Try.prog 16 #[.slice A0 l0.length c0] w fun e w' => e = .returned (.bool r) ∧ Drawn0 w w' := by
 have HR0 := Zm hr0
 have HC0 := Zm hc0
 clear hr0 hc0
 have H : (r07_Clean.l0 k l0 0) = some r := h
 clear h
 have H' := Zm H
 clear H
 go_enter Try.func16, Try.ntmps16
 go_wp2
 go_loopg [3] k (fun kq v3 w' => ∃ (x3_1 : Int), v3 = .int .i64 x3_1 ∧ Aside0 (r07_Clean.l0 kq l0 x3_1 = some r) ∧ Aside0 (kq ≤ k) ∧ Drawn0 w w')
 case atStart => exact ⟨(0), (by first | rfl | (simp; done) | (simp [*]; done)), H', ⟨Nat.le_refl _⟩, by repeat (first | exact Drawn0.refl _ | apply Drawn0.step)⟩
 case round =>
  clear H'
  try clear c1
  obtain ⟨x3_1, rfl, HA, HK1, ⟨m1, rfl⟩⟩ := hrel
  cases gk with
  | zero => exact absurd HA.out (by simp [r07_Clean.l0])
  | succ k1 =>
   have H := HA.out
   clear HA
   simp only [r07_Clean.l0] at H
   by_cases c2 : x3_1 < (l0.length : Int)
   ·rw [if_pos c2] at H
    have c2b0 : decide (x3_1 < (l0.length : Int)) = true := decide_eq_true c2
    clear c2
    by_cases c3 : 0 ≤ x3_1
    ·rw [if_pos c3] at H
     have c3b0 : decide (0 ≤ x3_1) = true := decide_eq_true c3
     clear c3
     by_cases c4 : ((rd_T41 l0 x3_1).f0) = 4
     ·rw [if_pos c4] at H
      have c4b0 : (((rd_T41 l0 x3_1).f0) == 4) = true := beq_iff_eq.mpr c4
      have c4b1 : (((rd_T41 l0 x3_1).f0) != 4) = false := bne_eq_false_iff_eq.mpr c4
      clear c4
      obtain rfl := Option.some.inj H
      have p308 : 0 ≤ (x3_1 : Int) := Zo (by first | (with_reducible assumption) | assumption)
      have q308 : x3_1 < (l0.length : Int) := Zo (by first | (with_reducible assumption) | assumption)
      obtain ⟨ad308, e308, hx308_0, hx308_1, hx308_2, hx308_3, hx308_4, hx308_5, hx308_6⟩ := at_T41 HR0.out x3_1 p308 q308
      cases e308
      replace p308 := eq_true p308
      replace q308 := eq_true q308
      go_wp2
      go_ret
      exact ⟨by first | rfl | (simp; done) | (simp [*]; done), by repeat (first | exact Drawn0.refl _ | apply Drawn0.step)⟩
     ·rw [if_neg c4] at H
      have c4b0 : (((rd_T41 l0 x3_1).f0) == 4) = false := beq_eq_false_iff_ne.mpr c4
      have c4b1 : (((rd_T41 l0 x3_1).f0) != 4) = true := bne_iff_ne.mpr c4
      have H' := Zm H
      clear H
      have p308 : 0 ≤ (x3_1 : Int) := Zo (by first | (with_reducible assumption) | assumption)
      have q308 : x3_1 < (l0.length : Int) := Zo (by first | (with_reducible assumption) | assumption)
      obtain ⟨ad308, e308, hx308_0, hx308_1, hx308_2, hx308_3, hx308_4, hx308_5, hx308_6⟩ := at_T41 HR0.out x3_1 p308 q308
      cases e308
      replace p308 := eq_true p308
      replace q308 := eq_true q308
      go_wp2
      go_roundg k1
      case measure => have := HK1.out; omega
      case rel => exact ⟨(wrap64 (x3_1 + 1)), (by first | rfl | (simp; done) | (simp [*]; done)), H', ⟨by have := HK1.out; omega⟩, by repeat (first | exact Drawn0.refl _ | apply Drawn0.step)⟩
    ·rw [if_neg c3] at H
     exact absurd H (by simp)
   ·rw [if_neg c2] at H
    have c2b0 : decide (x3_1 < (l0.length : Int)) = false := decide_eq_false c2
    clear c2
    obtain rfl := Option.some.inj H
    go_wp2
    go_ret
    exact ⟨by first | rfl | (simp; done) | (simp [*]; done), by repeat (first | exact Drawn0.refl _ | apply Drawn0.step)⟩
/-! ### r07_Same: function 13 -/
def r07_Same.l0 : Nat → List (S41) → List (S41) → Int → Option (Bool)
 | 0, _, _, _ => none
 | k + 1, x0, x1, x5 => if x5 < (x0.length : Int) then (if 0 ≤ x5 then (if x5 < (x1.length : Int) then (if (!(((rd_T41 x0 x5).f0) == ((rd_T41 x1 x5).f0)) || ((!(((rd_T41 x0 x5).f1.f0) == ((rd_T41 x1 x5).f1.f0)) || (!(((rd_T41 x0 x5).f1.f1) == ((rd_T41 x1 x5).f1.f1)))) || ((!(((rd_T41 x0 x5).f2.f0) == ((rd_T41 x1 x5).f2.f0)) || (!(((rd_T41 x0 x5).f2.f1) == ((rd_T41 x1 x5).f2.f1)))) || ((!(((rd_T41 x0 x5).f3.f0) == ((rd_T41 x1 x5).f3.f0)) || (!(((rd_T41 x0 x5).f3.f1) == ((rd_T41 x1 x5).f3.f1)))))))) = true then (some false) else (r07_Same.l0 k x0 x1 (wrap64 (x5 + 1)))) else (none)) else (none)) else (some true)
def r07_Same.f (k : Nat) (l0 : List (S41)) (l1 : List (S41)) : Option (Bool) := if (l0.length : Int) = (l1.length : Int) then (r07_Same.l0 k l0 l1 0) else (some false)
theorem r07_Same.mono_l : ∀ k, (∀ y0 y1 y2, LeO (r07_Same.l0 k y0 y1 y2) (r07_Same.l0 (k + 1) y0 y1 y2))
 | 0 => fun _ _ _ r h => by simp [r07_Same.l0] at h
 | k + 1 => by
  have ih0 := r07_Same.mono_l k
  ·intro y0 y1 y2
   unfold r07_Same.l0
   repeat' first
   | (with_reducible exact ih0 _ _ _)
   | (with_reducible exact LeO.refl _)
   | (with_reducible exact LeO.none _)
   | (with_reducible refine LeO.ite ?_ ?_)
   | (with_reducible refine LeO.bind ?_ (fun _ => ?_))
   | exact ih0 _ _ _
   | exact LeO.none _
   | refine LeO.ite ?_ ?_
   | refine LeO.bind ?_ (fun _ => ?_)
theorem r07_Same.mono : ∀ a0 a1 k, LeO (r07_Same.f k a0 a1) (r07_Same.f (k + 1) a0 a1) := by
 intro a0 a1 k
 have ih0 := r07_Same.mono_l k
 unfold r07_Same.f
 repeat' first
   | (with_reducible exact ih0 _ _ _)
   | (with_reducible exact LeO.refl _)
   | (with_reducible exact LeO.none _)
   | (with_reducible refine LeO.ite ?_ ?_)
   | (with_reducible refine LeO.bind ?_ (fun _ => ?_))
   | exact ih0 _ _ _
   | exact LeO.none _
   | refine LeO.ite ?_ ?_
   | refine LeO.bind ?_ (fun _ => ?_)
set_option maxHeartbeats 8000000 in
set_option maxRecDepth 100000 in
theorem r07_Same.calls (k : Nat) (A0 : Option Addr) (c0 : Nat) (l0 : List (S41)) (A1 : Option Addr) (c1 : Nat) (l1 : List (S41)) (r : Bool) (w : World) (hr0 : Kd.C k41 w A0 l0.length l0) (hc0 : l0.length ≤ c0) (hr1 : Kd.C k41 w A1 l1.length l1) (hc1 : l1.length ≤ c1) (h : r07_Same.f k l0 l1 = some r) :
  Calls Try.prog 13 #[.slice A0 l0.length c0, .slice A1 l1.length c1] w fun e w' => e = .returned (.bool r) ∧ Drawn0 w w' := by
 have hu41 := Try.underlying41
 have HR0 := Zm hr0
 have HC0 := Zm hc0
 clear hr0 hc0
 have HR1 := Zm hr1
 have HC1 := Zm hc1
 clear hr1 hc1
 have H : (if (l0.length : Int) = (l1.length : Int) then (r07_Same.l0 k l0 l1 0) else (some false)) = some r := h
 clear h
 by_cases c3 : (l0.length : Int) = (l1.length : Int)
 ·rw [if_pos c3] at H
  have c3b0 : ((l0.length : Int) == (l1.length : Int)) = true := beq_iff_eq.mpr c3
  have c3b1 : ((l0.length : Int) != (l1.length : Int)) = false := bne_eq_false_iff_eq.mpr c3
  have c3b2 : (l0.length == l1.length) = true := by first | simpa using c3 | (simp at c3 ⊢; omega)
  clear c3
  have H' := Zm H
  clear H
  go_enter Try.func13, Try.ntmps13
  go_wp2
  repeat (go_quiet (fail); try go_wp2)
  go_loopg [5] k (fun kq v5 w' => ∃ (x5_1 : Int), v5 = .int .i64 x5_1 ∧ Aside0 (r07_Same.l0 kq l0 l1 x5_1 = some r) ∧ Aside0 (kq ≤ k) ∧ Drawn0 w w')
  case atStart => exact ⟨(0), (by first | rfl | (simp; done) | (simp [*]; done)), H', ⟨Nat.le_refl _⟩, by repeat (first | exact Drawn0.refl _ | apply Drawn0.step)⟩
  case round =>
   clear H'
   try clear c1
   try clear p2
   try clear c3
   try clear c3b0
   try clear c3b1
   try clear c3b2
   obtain ⟨x5_1, rfl, HA, HK1, ⟨m1, rfl⟩⟩ := hrel
   cases gk with
   | zero => exact absurd HA.out (by simp [r07_Same.l0])
   | succ k1 =>
    have H := HA.out
    clear HA
    simp only [r07_Same.l0] at H
    by_cases c4 : x5_1 < (l0.length : Int)
    ·rw [if_pos c4] at H
     have c4b0 : decide (x5_1 < (l0.length : Int)) = true := decide_eq_true c4
     clear c4
     by_cases c5 : 0 ≤ x5_1
     ·rw [if_pos c5] at H
      have c5b0 : decide (0 ≤ x5_1) = true := decide_eq_true c5
      clear c5
      by_cases c6 : x5_1 < (l1.length : Int)
      ·rw [if_pos c6] at H
       have c6b0 : decide (x5_1 < (l1.length : Int)) = true := decide_eq_true c6
       clear c6
       by_cases c7 : (!(((rd_T41 l0 x5_1).f0) == ((rd_T41 l1 x5_1).f0)) || ((!(((rd_T41 l0 x5_1).f1.f0) == ((rd_T41 l1 x5_1).f1.f0)) || (!(((rd_T41 l0 x5_1).f1.f1) == ((rd_T41 l1 x5_1).f1.f1)))) || ((!(((rd_T41 l0 x5_1).f2.f0) == ((rd_T41 l1 x5_1).f2.f0)) || (!(((rd_T41 l0 x5_1).f2.f1) == ((rd_T41 l1 x5_1).f2.f1)))) || ((!(((rd_T41 l0 x5_1).f3.f0) == ((rd_T41 l1 x5_1).f3.f0)) || (!(((rd_T41 l0 x5_1).f3.f1) == ((rd_T41 l1 x5_1).f3.f1)))))))) = true
       ·rw [if_pos c7] at H
        have c7b0 : (!(((rd_T41 l0 x5_1).f0) == ((rd_T41 l1 x5_1).f0)) || ((!(((rd_T41 l0 x5_1).f1.f0) == ((rd_T41 l1 x5_1).f1.f0)) || (!(((rd_T41 l0 x5_1).f1.f1) == ((rd_T41 l1 x5_1).f1.f1)))) || ((!(((rd_T41 l0 x5_1).f2.f0) == ((rd_T41 l1 x5_1).f2.f0)) || (!(((rd_T41 l0 x5_1).f2.f1) == ((rd_T41 l1 x5_1).f2.f1)))) || ((!(((rd_T41 l0 x5_1).f3.f0) == ((rd_T41 l1 x5_1).f3.f0)) || (!(((rd_T41 l0 x5_1).f3.f1) == ((rd_T41 l1 x5_1).f3.f1)))))))) = true := c7
        clear c7
        obtain rfl := Option.some.inj H
        have p326 : 0 ≤ (x5_1 : Int) := Zo (by first | (with_reducible assumption) | assumption)
        have q326 : x5_1 < (l0.length : Int) := Zo (by first | (with_reducible assumption) | assumption)
        obtain ⟨ad326, e326, hx326_0, hx326_1, hx326_2, hx326_3, hx326_4, hx326_5, hx326_6⟩ := at_T41 HR0.out x5_1 p326 q326
        cases e326
        replace p326 := eq_true p326
        replace q326 := eq_true q326
        have p327 : 0 ≤ (x5_1 : Int) := Zo (by first | (with_reducible assumption) | assumption)
        have q327 : x5_1 < (l1.length : Int) := Zo (by first | (with_reducible assumption) | assumption)
        obtain ⟨ad327, e327, hx327_0, hx327_1, hx327_2, hx327_3, hx327_4, hx327_5, hx327_6⟩ := at_T41 HR1.out x5_1 p327 q327
        cases e327
        replace p327 := eq_true p327
        replace q327 := eq_true q327
        go_wp2
        repeat (go_quiet (fail); try go_wp2)
        go_ret
        exact ⟨by first | rfl | (simp; done) | (simp [*]; done), by repeat (first | exact Drawn0.refl _ | apply Drawn0.step)⟩
       ·rw [if_neg c7] at H
        have c7b0 : (!(((rd_T41 l0 x5_1).f0) == ((rd_T41 l1 x5_1).f0)) || ((!(((rd_T41 l0 x5_1).f1.f0) == ((rd_T41 l1 x5_1).f1.f0)) || (!(((rd_T41 l0 x5_1).f1.f1) == ((rd_T41 l1 x5_1).f1.f1)))) || ((!(((rd_T41 l0 x5_1).f2.f0) == ((rd_T41 l1 x5_1).f2.f0)) || (!(((rd_T41 l0 x5_1).f2.f1) == ((rd_T41 l1 x5_1).f2.f1)))) || ((!(((rd_T41 l0 x5_1).f3.f0) == ((rd_T41 l1 x5_1).f3.f0)) || (!(((rd_T41 l0 x5_1).f3.f1) == ((rd_T41 l1 x5_1).f3.f1)))))))) = false := by simpa using c7
        clear c7
        have H' := Zm H
        clear H
        have p326 : 0 ≤ (x5_1 : Int) := Zo (by first | (with_reducible assumption) | assumption)
        have q326 : x5_1 < (l0.length : Int) := Zo (by first | (with_reducible assumption) | assumption)
        obtain ⟨ad326, e326, hx326_0, hx326_1, hx326_2, hx326_3, hx326_4, hx326_5, hx326_6⟩ := at_T41 HR0.out x5_1 p326 q326
        cases e326
        replace p326 := eq_true p326
        replace q326 := eq_true q326
        have p327 : 0 ≤ (x5_1 : Int) := Zo (by first | (with_reducible assumption) | assumption)
        have q327 : x5_1 < (l1.length : Int) := Zo (by first | (with_reducible assumption) | assumption)
        obtain ⟨ad327, e327, hx327_0, hx327_1, hx327_2, hx327_3, hx327_4, hx327_5, hx327_6⟩ := at_T41 HR1.out x5_1 p327 q327
        cases e327
        replace p327 := eq_true p327
        replace q327 := eq_true q327
        go_wp2
        repeat (go_quiet (fail); try go_wp2)
        go_roundg k1
        case measure => have := HK1.out; omega
        case rel => exact ⟨(wrap64 (x5_1 + 1)), (by first | rfl | (simp; done) | (simp [*]; done)), H', ⟨by have := HK1.out; omega⟩, by repeat (first | exact Drawn0.refl _ | apply Drawn0.step)⟩
      ·rw [if_neg c6] at H
       exact absurd H (by simp)
     ·rw [if_neg c5] at H
      exact absurd H (by simp)
    ·rw [if_neg c4] at H
     have c4b0 : decide (x5_1 < (l0.length : Int)) = false := decide_eq_false c4
     clear c4
     obtain rfl := Option.some.inj H
     go_wp2
     repeat (go_quiet (fail); try go_wp2)
     go_ret
     exact ⟨by first | rfl | (simp; done) | (simp [*]; done), by repeat (first | exact Drawn0.refl _ | apply Drawn0.step)⟩
 ·rw [if_neg c3] at H
  have c3b0 : ((l0.length : Int) == (l1.length : Int)) = false := beq_eq_false_iff_ne.mpr c3
  have c3b1 : ((l0.length : Int) != (l1.length : Int)) = true := bne_iff_ne.mpr c3
  have c3b2 : (l0.length == l1.length) = false := by first | simpa using c3 | (simp at c3 ⊢; omega)
  obtain rfl := Option.some.inj H
  go_enter Try.func13, Try.ntmps13
  go_wp2
  repeat (go_quiet (fail); try go_wp2)
  go_ret
  exact ⟨by first | rfl | (simp; done) | (simp [*]; done), by repeat (first | exact Drawn0.refl _ | apply Drawn0.step)⟩
end Go.Proofs.Yteafndooaokagaa.PDiff
