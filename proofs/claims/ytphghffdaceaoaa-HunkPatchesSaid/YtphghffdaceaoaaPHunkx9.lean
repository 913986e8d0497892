/- Laid by a program of this session out of the seat's translation. -/
import Derived.Test.YtphghffdaceaoaaPHunkx0
import Derived.Test.YtphghffdaceaoaaPHunkx8
namespace Go.Proofs.Ytphghffdaceaoaa.PHunk
open Go.RowKit Go.Proofs.YtphghffdaceaoaaW.PrintWords Go.Proofs.YtphghffdaceaoaaW.PrintLast Go.Proofs.YtphghffdaceaoaaW.PrintMore
attribute [local go_sem] max2_int min2_int max_two min_two max_three min_three max_four min_four   -- for this text's walks alone
set_option linter.unusedVariables false
set_option linter.unusedSimpArgs false
/-! ### r06_Of: function 10 -/
mutual
def r06_Of.l0 : Nat → List Int → Int → List (S40) → Int → Int → Option ((List (S40)))
 | 0, _, _, _, _, _ => none
 | k + 1, x0, x1, x6, x7, x8 => if x7 < (x0.length : Int) then (r06_Of.j1 k x0 x1 x6 x7 x8 true) else (r06_Of.j1 k x0 x1 x6 x7 x8 (decide (x8 < x1)))
def r06_Of.j1 : Nat → List Int → Int → List (S40) → Int → Int → Bool → Option ((List (S40)))
 | 0, _, _, _, _, _, _ => none
 | k + 1, x0, x1, x6, x7, x8, x23 => if x23 = true then (if x7 < (x0.length : Int) then (if 0 ≤ x7 then (r06_Of.j2 k x0 x1 x6 x7 x8 ((rd x0 x7) == x8)) else (none)) else (r06_Of.j2 k x0 x1 x6 x7 x8 false)) else (some x6)
def r06_Of.j2 : Nat → List Int → Int → List (S40) → Int → Int → Bool → Option ((List (S40)))
 | 0, _, _, _, _, _, _ => none
 | k + 1, x0, x1, x6, x7, x8, x35 => if x35 = true then (r06_Of.l0 k x0 x1 x6 (wrap64 (x7 + 1)) (wrap64 (x8 + 1))) else (r06_Of.l1 k x0 x1 x6 x7 x7 0 x8 0)
def r06_Of.l1 : Nat → List Int → Int → List (S40) → Int → Int → Int → Int → Int → Option ((List (S40)))
 | 0, _, _, _, _, _, _, _, _ => none
 | k + 1, x0, x1, x6, x7, x224000, x224001, x224002, x224003 => if x7 < (x0.length : Int) then (if 0 ≤ x7 then (if (rd x0 x7) < 0 then (r06_Of.l1 k x0 x1 x6 (wrap64 (x7 + 1)) x224000 x224001 x224002 x224003) else (if x6.length < 4398046511104 then (r06_Of.l0 k x0 x1 (x6 ++ [(⟨x224000, wrap64 (x7 - x224000), x224002, wrap64 ((rd x0 x7) - x224002)⟩ : S40)]) x7 (rd x0 x7)) else (none))) else (none)) else (if x6.length < 4398046511104 then (r06_Of.l0 k x0 x1 (x6 ++ [(⟨x224000, wrap64 (x7 - x224000), x224002, wrap64 (x1 - x224002)⟩ : S40)]) x7 x1) else (none))
end
def r06_Of.f (k : Nat) (l0 : List Int) (a1 : Int) : Option ((List (S40))) := (r06_match.f k l0 a1).bind fun t221 => (if t221 = true then (r06_Of.l0 k l0 a1 ([] : List (S40)) 0 0) else (some ([] : List (S40))))
theorem r06_Of.mono_l : ∀ k, (∀ y0 y1 y2 y3 y4, LeO (r06_Of.l0 k y0 y1 y2 y3 y4) (r06_Of.l0 (k + 1) y0 y1 y2 y3 y4)) ∧ (∀ y0 y1 y2 y3 y4 y5, LeO (r06_Of.j1 k y0 y1 y2 y3 y4 y5) (r06_Of.j1 (k + 1) y0 y1 y2 y3 y4 y5)) ∧ (∀ y0 y1 y2 y3 y4 y5, LeO (r06_Of.j2 k y0 y1 y2 y3 y4 y5) (r06_Of.j2 (k + 1) y0 y1 y2 y3 y4 y5)) ∧ (∀ y0 y1 y2 y3 y4 y5 y6 y7, LeO (r06_Of.l1 k y0 y1 y2 y3 y4 y5 y6 y7) (r06_Of.l1 (k + 1) y0 y1 y2 y3 y4 y5 y6 y7))
 | 0 => ⟨fun _ _ _ _ _ r h => by simp [r06_Of.l0] at h, fun _ _ _ _ _ _ r h => by simp [r06_Of.j1] at h, fun _ _ _ _ _ _ r h => by simp [r06_Of.j2] at h, fun _ _ _ _ _ _ _ _ r h => by simp [r06_Of.l1] at h⟩
 | k + 1 => by
  obtain ⟨ih0, ih1, ih2, ih3⟩ := r06_Of.mono_l k
  refine ⟨?_, ?_, ?_, ?_⟩
  ·intro y0 y1 y2 y3 y4
   unfold r06_Of.l0
   repeat' first
   | (with_reducible exact ih0 _ _ _ _ _)
   | (with_reducible exact ih1 _ _ _ _ _ _)
   | (with_reducible exact ih2 _ _ _ _ _ _)
   | (with_reducible exact ih3 _ _ _ _ _ _ _ _)
   | (with_reducible exact r06_match.mono _ _ _)
   | (with_reducible exact LeO.refl _)
   | (with_reducible exact LeO.none _)
   | (with_reducible refine LeO.ite ?_ ?_)
   | (with_reducible refine LeO.bind ?_ (fun _ => ?_))
   | exact ih0 _ _ _ _ _
   | exact ih1 _ _ _ _ _ _
   | exact ih2 _ _ _ _ _ _
   | exact ih3 _ _ _ _ _ _ _ _
   | exact r06_match.mono _ _ _
   | exact LeO.none _
   | refine LeO.ite ?_ ?_
   | refine LeO.bind ?_ (fun _ => ?_)
  ·intro y0 y1 y2 y3 y4 y5
   unfold r06_Of.j1
   repeat' first
   | (with_reducible exact ih0 _ _ _ _ _)
   | (with_reducible exact ih1 _ _ _ _ _ _)
   | (with_reducible exact ih2 _ _ _ _ _ _)
   | (with_reducible exact ih3 _ _ _ _ _ _ _ _)
   | (with_reducible exact r06_match.mono _ _ _)
   | (with_reducible exact LeO.refl _)
   | (with_reducible exact LeO.none _)
   | (with_reducible refine LeO.ite ?_ ?_)
   | (with_reducible refine LeO.bind ?_ (fun _ => ?_))
   | exact ih0 _ _ _ _ _
   | exact ih1 _ _ _ _ _ _
   | exact ih2 _ _ _ _ _ _
   | exact ih3 _ _ _ _ _ _ _ _
   | exact r06_match.mono _ _ _
   | exact LeO.none _
   | refine LeO.ite ?_ ?_
   | refine LeO.bind ?_ (fun _ => ?_)
  ·intro y0 y1 y2 y3 y4 y5
   unfold r06_Of.j2
   repeat' first
   | (with_reducible exact ih0 _ _ _ _ _)
   | (with_reducible exact ih1 _ _ _ _ _ _)
   | (with_reducible exact ih2 _ _ _ _ _ _)
   | (with_reducible exact ih3 _ _ _ _ _ _ _ _)
   | (with_reducible exact r06_match.mono _ _ _)
   | (with_reducible exact LeO.refl _)
   | (with_reducible exact LeO.none _)
   | (with_reducible refine LeO.ite ?_ ?_)
   | (with_reducible refine LeO.bind ?_ (fun _ => ?_))
   | exact ih0 _ _ _ _ _
   | exact ih1 _ _ _ _ _ _
   | exact ih2 _ _ _ _ _ _
   | exact ih3 _ _ _ _ _ _ _ _
   | exact r06_match.mono _ _ _
   | exact LeO.none _
   | refine LeO.ite ?_ ?_
   | refine LeO.bind ?_ (fun _ => ?_)
  ·intro y0 y1 y2 y3 y4 y5 y6 y7
   unfold r06_Of.l1
   repeat' first
   | (with_reducible exact ih0 _ _ _ _ _)
   | (with_reducible exact ih1 _ _ _ _ _ _)
   | (with_reducible exact ih2 _ _ _ _ _ _)
   | (with_reducible exact ih3 _ _ _ _ _ _ _ _)
   | (with_reducible exact r06_match.mono _ _ _)
   | (with_reducible exact LeO.refl _)
   | (with_reducible exact LeO.none _)
   | (with_reducible refine LeO.ite ?_ ?_)
   | (with_reducible refine LeO.bind ?_ (fun _ => ?_))
   | exact ih0 _ _ _ _ _
   | exact ih1 _ _ _ _ _ _
   | exact ih2 _ _ _ _ _ _
   | exact ih3 _ _ _ _ _ _ _ _
   | exact r06_match.mono _ _ _
   | exact LeO.none _
   | refine LeO.ite ?_ ?_
   | refine LeO.bind ?_ (fun _ => ?_)
theorem r06_Of.mono : ∀ a0 a1 k, LeO (r06_Of.f k a0 a1) (r06_Of.f (k + 1) a0 a1) := by
 intro a0 a1 k
 obtain ⟨ih0, ih1, ih2, ih3⟩ := r06_Of.mono_l k
 unfold r06_Of.f
 repeat' first
   | (with_reducible exact ih0 _ _ _ _ _)
   | (with_reducible exact ih1 _ _ _ _ _ _)
   | (with_reducible exact ih2 _ _ _ _ _ _)
   | (with_reducible exact ih3 _ _ _ _ _ _ _ _)
   | (with_reducible exact r06_match.mono _ _ _)
   | (with_reducible exact LeO.refl _)
   | (with_reducible exact LeO.none _)
   | (with_reducible refine LeO.ite ?_ ?_)
   | (with_reducible refine LeO.bind ?_ (fun _ => ?_))
   | exact ih0 _ _ _ _ _
   | exact ih1 _ _ _ _ _ _
   | exact ih2 _ _ _ _ _ _
   | exact ih3 _ _ _ _ _ _ _ _
   | exact r06_match.mono _ _ _
   | exact LeO.none _
   | refine LeO.ite ?_ ?_
   | refine LeO.bind ?_ (fun _ => ?_)
set_option maxHeartbeats 8000000 in
set_option maxRecDepth 100000 in
theorem r06_Of.calls (k : Nat) (A0 : Option Addr) (c0 : Nat) (l0 : List Int) (a1 : Int) (r : List (S40)) (w : World) (hr0 : Kd.C (Kd.int .i64) w A0 l0.length l0) (hc0 : l0.length ≤ c0) (h : r06_Of.f k l0 a1 = some r) :
  Calls Try.prog 10 #[.slice A0 l0.length c0, .int .i64 a1] w fun e w' => ∃ v0_ : Value, e = .returned (v0_) ∧ Kd.R k40 40 w' w.heap.size (fun _ => True) v0_ r ∧ Below w.heap.size w w' := by
 have hu40 := Try.underlying40
 have HR0 := Zm hr0
 have HC0 := Zm hc0
 clear hr0 hc0
 have HB := Zm (Below.refl w.heap.size w)
 have H : ((r06_match.f k l0 a1).bind fun t221 => (if t221 = true then (r06_Of.l0 k l0 a1 ([] : List (S40)) 0 0) else (some ([] : List (S40))))) = some r := h
 clear h
 replace H := Option.bind_eq_some_iff.mp H
 obtain ⟨t221, A30, H⟩ := H
 replace H : (if t221 = true then (r06_Of.l0 k l0 a1 ([] : List (S40)) 0 0) else (some ([] : List (S40)))) = some r := H
 have A3 := Zm A30
 clear A30
 by_cases c4 : t221 = true
 ·subst c4
  have H1 : (r06_Of.l0 k l0 a1 ([] : List (S40)) 0 0) = some r := by rw [if_pos rfl] at H; exact H
  clear H
  have H := H1
  clear H1
  have H' := Zm H
  clear H
  go_enter Try.func10, Try.ntmps10
  go_wp2_with (first | ((with_reducible refine gate_callee (f := 26) rfl ?_); refine goesL_ (some 12) rfl rfl Try.func26 (by kernel_rfl) rfl #[.slice A0 l0.length c0, .int .i64 a1] rfl (by (try simp only [List.map_toArray, List.map_cons, List.map_nil]); first | done | rfl | (simp only [List.length_drop, List.length_take]; rfl)) ?_; (with_reducible refine (r06_match.calls k _ _ l0 a1 true _ ?side1 ?side2 A3.out).mono ?_); (case side1 => repeat (first | exact HR0.out | (with_reducible refine Kd.C_alloc ?_ _) | (with_reducible refine Kd.C_drewN ?_ _) | (with_reducible refine Kd.C_drew ?_))); (case side2 => exact HC0.out); rintro e w5 ⟨rfl, hb⟩; refine ⟨_, rfl, ?_⟩; have n0_ := Zm (below_step (by repeat (first | (with_reducible first | exact HB.out | apply below_alloc | apply Zd | apply below_drew1) | exact HB.out)) hb); clear HB; have HB := n0_; clear n0_; (try clear hb); (try clear hb2); (try clear hk); (try clear hi)))
  go_loopg [6, 7, 8] k (fun kq v6 v7 v8 w' => ∃ (x6_1 : List (S40)) (x7_1 : Int) (x8_1 : Int), v7 = .int .i64 x7_1 ∧ v8 = .int .i64 x8_1 ∧ Aside0 (r06_Of.l0 kq l0 a1 x6_1 x7_1 x8_1 = some r) ∧ Aside0 (kq ≤ k) ∧ Aside0 (Kd.R k40 40 w' w.heap.size (fun _ => True) v6 x6_1) ∧ Aside0 (Below w.heap.size w w'))
  case atStart => exact ⟨(([] : List (S40))), (0), (0), (by first | rfl | (simp; done) | (simp [*]; done)), (by first | rfl | (simp; done) | (simp [*]; done)), H', ⟨Nat.le_refl _⟩, ⟨by first | exact Kd.R_nil _ _ _ _ _ | exact Kd.N_nil _ _ _ _ _ | exact Kd.V_nil _ _ _ _ _ | exact Kd.Q_nil _ _ _ _ _ | exact Kd.S_nil _ _ _ _ _⟩, ⟨by repeat (first | (with_reducible first | exact HB.out | apply below_alloc | apply Zd | apply below_drew1) | exact HB.out)⟩⟩
  case round =>
   clear H'
   try clear c1
   try clear c2
   try clear p2
   try clear c4
   obtain ⟨x6_1, x7_1, x8_1, rfl, rfl, HA, HK1, HO_6, HB⟩ := hrel
   cases gk with
   | zero => exact absurd HA.out (by simp [r06_Of.l0])
   | succ k1 =>
    have H := HA.out
    clear HA
    simp only [r06_Of.l0] at H
    have HC6 := Zm H
    clear H
    go_upto_region 7 with (fail)
    go_cut [23] (fun v23 wc => ∃ (kq : Nat) (x23_5 : Bool), v23 = .bool x23_5 ∧ Aside0 (r06_Of.j1 kq l0 a1 x6_1 x7_1 x8_1 x23_5 = some r) ∧ Aside0 (kq ≤ k1) ∧ Aside0 (Kd.R k40 40 wc w.heap.size (fun _ => True) u6 x6_1) ∧ Aside0 (Below w.heap.size w wc))
    case first =>
     have H := HC6.out
     clear HC6
     by_cases c7 : x7_1 < (l0.length : Int)
     ·rw [if_pos c7] at H
      have c7b0 : decide (x7_1 < (l0.length : Int)) = true := decide_eq_true c7
      clear c7
      (first | rw [c7b0] | (simp only [i64_w, i32_w]; rw [c7b0]) | skip)
      have H' := Zm H
      clear H
      go_wp2
      go_meet
      case rel => exact ⟨_, (true), (by first | rfl | (simp; done) | (simp [*]; done)), H', ⟨by have := HK1.out; first | omega | exact Nat.le_refl _⟩, ⟨by (with_reducible repeat (first | apply Kd.R_alloc | apply Kd.R_drewN | apply Kd.R_drew)); first | exact HO_6.out | exact Kd.R_mono HO_6.out (fun _ _ => trivial)⟩, ⟨by repeat (first | (with_reducible first | exact HB.out | apply below_alloc | apply Zd | apply below_drew1) | exact HB.out)⟩⟩
     ·rw [if_neg c7] at H
      have c7b0 : decide (x7_1 < (l0.length : Int)) = false := decide_eq_false c7
      clear c7
      (first | rw [c7b0] | (simp only [i64_w, i32_w]; rw [c7b0]) | skip)
      have H' := Zm H
      clear H
      go_wp2
      go_meet
      case rel => exact ⟨_, (decide (x8_1 < a1)), (by first | rfl | (simp; done) | (simp [*]; done)), H', ⟨by have := HK1.out; first | omega | exact Nat.le_refl _⟩, ⟨by (with_reducible repeat (first | apply Kd.R_alloc | apply Kd.R_drewN | apply Kd.R_drew)); first | exact HO_6.out | exact Kd.R_mono HO_6.out (fun _ _ => trivial)⟩, ⟨by repeat (first | (with_reducible first | exact HB.out | apply below_alloc | apply Zd | apply below_drew1) | exact HB.out)⟩⟩
    case rest =>
     clear HC6
     try clear c1
     try clear c2
     try clear p2
     try clear c4
     try clear c7
     try clear c7b0
     try clear p2
     obtain ⟨kq, x23_5, rfl, HA, HJ5, HO_6, HB⟩ := hcut
     cases kq with
     | zero => exact absurd HA.out (by simp [r06_Of.j1])
     | succ kj5 =>
      have H := HA.out
      clear HA
      simp only [r06_Of.j1] at H
      by_cases c8 : x23_5 = true
      ·subst c8
       have H1 : (if x7_1 < (l0.length : Int) then (if 0 ≤ x7_1 then (r06_Of.j2 kj5 l0 a1 x6_1 x7_1 x8_1 ((rd l0 x7_1) == x8_1)) else (none)) else (r06_Of.j2 kj5 l0 a1 x6_1 x7_1 x8_1 false)) = some r := by rw [if_pos rfl] at H; exact H
       clear H
       have H := H1
       clear H1
       have HC9 := Zm H
       clear H
       go_upto_region 8 with (fail)
       go_cut [35] (fun v35 wc => ∃ (kq : Nat) (x35_8 : Bool), v35 = .bool x35_8 ∧ Aside0 (r06_Of.j2 kq l0 a1 x6_1 x7_1 x8_1 x35_8 = some r) ∧ Aside0 (kq ≤ kj5) ∧ Aside0 (Kd.R k40 40 wc w.heap.size (fun _ => True) u6 x6_1) ∧ Aside0 (Below w.heap.size w wc))
       case first =>
        have H := HC9.out
        clear HC9
        by_cases c10 : x7_1 < (l0.length : Int)
        ·rw [if_pos c10] at H
         have c10b0 : decide (x7_1 < (l0.length : Int)) = true := decide_eq_true c10
         clear c10
         (first | rw [c10b0] | (simp only [i64_w, i32_w]; rw [c10b0]) | skip)
         by_cases c11 : 0 ≤ x7_1
         ·rw [if_pos c11] at H
          have c11b0 : decide (0 ≤ x7_1) = true := decide_eq_true c11
          clear c11
          have H' := Zm H
          clear H
          have p222 : 0 ≤ (x7_1 : Int) := Zo (by first | (with_reducible assumption) | assumption)
          have q222 : x7_1 < (l0.length : Int) := Zo (by first | (with_reducible assumption) | assumption)
          obtain ⟨ad222, e222, hx222_0⟩ := Kd.at_int HR0.out x7_1 p222 q222
          cases e222
          replace hx222_0 := (HB.out.cell (World.block_lt_of_cell? w _ hx222_0)).trans hx222_0
          replace p222 := eq_true p222
          replace q222 := eq_true q222
          go_wp2
          go_meet
          case rel => exact ⟨_, (((rd l0 x7_1) == x8_1)), (by first | rfl | (simp; done) | (simp [*]; done)), H', ⟨by have := HK1.out; have := HJ5.out; first | omega | exact Nat.le_refl _⟩, ⟨by (with_reducible repeat (first | apply Kd.R_alloc | apply Kd.R_drewN | apply Kd.R_drew)); first | exact HO_6.out | exact Kd.R_mono HO_6.out (fun _ _ => trivial)⟩, ⟨by repeat (first | (with_reducible first | exact HB.out | apply below_alloc | apply Zd | apply below_drew1) | exact HB.out)⟩⟩
         ·rw [if_neg c11] at H
          exact absurd H (by simp)
        ·rw [if_neg c10] at H
         have c10b0 : decide (x7_1 < (l0.length : Int)) = false := decide_eq_false c10
         clear c10
         (first | rw [c10b0] | (simp only [i64_w, i32_w]; rw [c10b0]) | skip)
         have H' := Zm H
         clear H
         go_wp2
         go_meet
         case rel => exact ⟨_, (false), (by first | rfl | (simp; done) | (simp [*]; done)), H', ⟨by have := HK1.out; have := HJ5.out; first | omega | exact Nat.le_refl _⟩, ⟨by (with_reducible repeat (first | apply Kd.R_alloc | apply Kd.R_drewN | apply Kd.R_drew)); first | exact HO_6.out | exact Kd.R_mono HO_6.out (fun _ _ => trivial)⟩, ⟨by repeat (first | (with_reducible first | exact HB.out | apply below_alloc | apply Zd | apply below_drew1) | exact HB.out)⟩⟩
       case rest =>
        clear HC9
        try clear c1
        try clear c2
        try clear p2
        try clear q2
        try clear hx2
        try clear c4
        try clear c7
        try clear c7b0
        try clear c8
        try clear c10
        try clear c10b0
        try clear c11
        try clear c11b0
        try clear hx222_0
        try clear p2
        try clear p222
        try clear q222
        obtain ⟨kq, x35_8, rfl, HA, HJ8, HO_6, HB⟩ := hcut
        cases kq with
        | zero => exact absurd HA.out (by simp [r06_Of.j2])
        | succ kj8 =>
         have H := HA.out
         clear HA
         simp only [r06_Of.j2] at H
         by_cases c12 : x35_8 = true
         ·subst c12
          have H1 : (r06_Of.l0 kj8 l0 a1 x6_1 (wrap64 (x7_1 + 1)) (wrap64 (x8_1 + 1))) = some r := by rw [if_pos rfl] at H; exact H
          clear H
          have H := H1
          clear H1
          have H' := Zm H
          clear H
          go_wp2
          go_roundg kj8
          case measure => have := HK1.out; have := HJ5.out; have := HJ8.out; omega
          case rel => exact ⟨(x6_1), (wrap64 (x7_1 + 1)), (wrap64 (x8_1 + 1)), (by first | rfl | (simp; done) | (simp [*]; done)), (by first | rfl | (simp; done) | (simp [*]; done)), H', ⟨by have := HK1.out; have := HJ5.out; have := HJ8.out; omega⟩, ⟨by (with_reducible repeat (first | apply Kd.R_alloc | apply Kd.R_drewN | apply Kd.R_drew)); first | exact HO_6.out | exact Kd.R_mono HO_6.out (fun _ _ => trivial)⟩, ⟨by repeat (first | (with_reducible first | exact HB.out | apply below_alloc | apply Zd | apply below_drew1) | exact HB.out)⟩⟩
         ·replace c12 := Bool.eq_false_iff.mpr c12
          subst c12
          have H1 : (r06_Of.l1 kj8 l0 a1 x6_1 x7_1 x7_1 0 x8_1 0) = some r := by rw [if_neg (show ¬ (false = true) by decide)] at H; exact H
          clear H
          have H := H1
          clear H1
          have H' := Zm H
          clear H
          go_wp2_with (first | ((with_reducible refine gate_dst (N := 9) rfl ?_); refine box_event ?hg (N := 9) ?hd (cs := #[.int .i64 0, .int .i64 0, .int .i64 0, .int .i64 0]) (t := 40) ?hr ?_; (case hd => rfl); (case hg => rfl); (case hr => first | (go_simp; done) | (go_simp; rfl)); intro gb223 hg w13 hbox hb; have n0_ := Zm (Kd.R_below (Kd.R_elderB (by (with_reducible repeat (first | apply Kd.R_alloc | apply Kd.R_drewN | apply Kd.R_drew)); exact HO_6.out) gb223 (Nat.le_of_eq hg.symm)) hb); have n1_ := Zm (below_step (by repeat (first | (with_reducible first | exact HB.out | apply below_alloc | apply Zd | apply below_drew1) | exact HB.out)) hb); have n2_ := Zm (hbox); have n3_ := Zm ((by rw [hg]; exact (below_size (by repeat (first | (with_reducible first | exact HB.out | apply below_alloc | apply Zd | apply below_drew1) | exact HB.out))) : w.heap.size ≤ gb223)); have n4_ := Zm ((by rw [hg]; exact (below_size (by repeat (first | (with_reducible first | exact HB.out | apply below_alloc | apply Zd | apply below_drew1) | exact HB.out))) : w.heap.size ≤ gb223)); clear HO_6; clear HB; have HO_6 := n0_; have HB := n1_; have BK223 := n2_; have GW223 := n3_; have GE223 := n4_; clear n0_ n1_ n2_ n3_ n4_; clear hb hbox hg; have hcz14_0 : w13.cell? ⟨gb223, 0, none⟩ = some (.int .i64 0) := (blk_cell BK223.out 0).trans rfl; have hcz14_1 : w13.cell? ⟨gb223, 1, none⟩ = some (.int .i64 0) := (blk_cell BK223.out 1).trans rfl; have hcz14_2 : w13.cell? ⟨gb223, 2, none⟩ = some (.int .i64 0) := (blk_cell BK223.out 2).trans rfl; have hcz14_3 : w13.cell? ⟨gb223, 3, none⟩ = some (.int .i64 0) := (blk_cell BK223.out 3).trans rfl; have hfz14_0 := blk_frozen BK223.out 0; have hfz14_1 := blk_frozen BK223.out 1; have hfz14_2 := blk_frozen BK223.out 2; have hfz14_3 := blk_frozen BK223.out 3))
          go_loopg [7] kj8 (fun kq v7 w' => ∃ (x7_4 : Int), v7 = .int .i64 x7_4 ∧ Aside0 (r06_Of.l1 kq l0 a1 x6_1 x7_4 x7_1 0 x8_1 0 = some r) ∧ Aside0 (kq ≤ kj8) ∧ Aside0 (Kd.R k40 40 w' w.heap.size (fun k_ => k_ ≠ gb223) u6 x6_1) ∧ Aside0 (w'.heap[gb223]? = some (.cells #[.int .i64 x7_1, .int .i64 0, .int .i64 x8_1, .int .i64 0] 40 (0, 0))) ∧ Aside0 (Below w.heap.size w w'))
          case atStart => exact ⟨(x7_1), (by first | rfl | (simp; done) | (simp [*]; done)), H', ⟨Nat.le_refl _⟩, ⟨by (with_reducible repeat (first | apply Kd.R_alloc | apply Kd.R_drewN | apply Kd.R_drew)); exact Kd.R_mono (Kd.R_far (p := ⟨gb223, 3, none⟩) (Kd.R_far (p := ⟨gb223, 2, none⟩) (Kd.R_far (p := ⟨gb223, 1, none⟩) (Kd.R_far (p := ⟨gb223, 0, none⟩) (Kd.R_mono HO_6.out (fun k_ hk => (⟨hk, hk.2⟩ : _ ∧ k_ ≠ gb223))) (fun _ hk => hk.2) (.int .i64 x7_1)) (fun _ hk => hk.2) (.int .i64 0)) (fun _ hk => hk.2) (.int .i64 x8_1)) (fun _ hk => hk.2) (.int .i64 0)) (fun _ hk => hk.1.2)⟩, ⟨by (with_reducible repeat (first | refine blk_drewN ?_ _ | refine blk_drew ?_ | refine blk_alloc ?_ _)); refine blk_put (cs := #[.int .i64 x7_1, .int .i64 0, .int .i64 x8_1, .int .i64 0]) ?_ 3 _ rfl; (with_reducible repeat (first | refine blk_drewN ?_ _ | refine blk_drew ?_ | refine blk_alloc ?_ _)); refine blk_put (cs := #[.int .i64 x7_1, .int .i64 0, .int .i64 0, .int .i64 0]) ?_ 2 _ rfl; (with_reducible repeat (first | refine blk_drewN ?_ _ | refine blk_drew ?_ | refine blk_alloc ?_ _)); refine blk_put (cs := #[.int .i64 x7_1, .int .i64 0, .int .i64 0, .int .i64 0]) ?_ 1 _ rfl; (with_reducible repeat (first | refine blk_drewN ?_ _ | refine blk_drew ?_ | refine blk_alloc ?_ _)); refine blk_put (cs := #[.int .i64 0, .int .i64 0, .int .i64 0, .int .i64 0]) ?_ 0 _ rfl; (with_reducible repeat (first | refine blk_drewN ?_ _ | refine blk_drew ?_ | refine blk_alloc ?_ _)); exact BK223.out⟩, ⟨by repeat (first | (with_reducible first | exact HB.out | apply below_alloc | apply Zd | apply below_drew1 | refine below_set ?_ GE223.out) | exact HB.out)⟩⟩
          case round =>
           clear H'
           try clear c1
           try clear c2
           try clear p2
           try clear q2
           try clear hx2
           try clear c4
           try clear p6
           try clear c7
           try clear c7b0
           try clear c8
           try clear c10
           try clear c10b0
           try clear c11
           try clear c11b0
           try clear c12
           try clear hcz14_0
           try clear hcz14_1
           try clear hcz14_2
           try clear hcz14_3
           try clear hfz14_0
           try clear hfz14_1
           try clear hfz14_2
           try clear hfz14_3
           try clear hx222_0
           try clear p2
           try clear p222
           try clear q2
           try clear q222
           obtain ⟨x7_4, rfl, HA, HK4, HO_6, BK223, HB⟩ := hrel
           cases gk with
           | zero => exact absurd HA.out (by simp [r06_Of.l1])
           | succ k4 =>
            have H := HA.out
            clear HA
            simp only [r06_Of.l1] at H
            by_cases c15 : x7_4 < (l0.length : Int)
            ·rw [if_pos c15] at H
             have c15b0 : decide (x7_4 < (l0.length : Int)) = true := decide_eq_true c15
             clear c15
             by_cases c16 : 0 ≤ x7_4
             ·rw [if_pos c16] at H
              have c16b0 : decide (0 ≤ x7_4) = true := decide_eq_true c16
              clear c16
              by_cases c17 : (rd l0 x7_4) < 0
              ·rw [if_pos c17] at H
               have c17b0 : decide ((rd l0 x7_4) < 0) = true := decide_eq_true c17
               clear c17
               have H' := Zm H
               clear H
               have p224 : 0 ≤ (x7_4 : Int) := Zo (by first | (with_reducible assumption) | assumption)
               have q224 : x7_4 < (l0.length : Int) := Zo (by first | (with_reducible assumption) | assumption)
               obtain ⟨ad224, e224, hx224_0⟩ := Kd.at_int HR0.out x7_4 p224 q224
               cases e224
               replace hx224_0 := (HB.out.cell (World.block_lt_of_cell? w _ hx224_0)).trans hx224_0
               replace p224 := eq_true p224
               replace q224 := eq_true q224
               go_wp2
               go_roundg k4
               case measure => have := HK1.out; have := HJ5.out; have := HJ8.out; have := HK4.out; omega
               case rel => exact ⟨(wrap64 (x7_4 + 1)), (by first | rfl | (simp; done) | (simp [*]; done)), H', ⟨by have := HK1.out; have := HJ5.out; have := HJ8.out; have := HK4.out; omega⟩, ⟨by (with_reducible repeat (first | apply Kd.R_alloc | apply Kd.R_drewN | apply Kd.R_drew)); first | exact HO_6.out | exact Kd.R_mono HO_6.out (fun _ _ => trivial)⟩, ⟨by (with_reducible repeat (first | refine blk_drewN ?_ _ | refine blk_drew ?_ | refine blk_alloc ?_ _)); exact BK223.out⟩, ⟨by repeat (first | (with_reducible first | exact HB.out | apply below_alloc | apply Zd | apply below_drew1 | refine below_set ?_ GE223.out) | exact HB.out)⟩⟩
              ·rw [if_neg c17] at H
               have c17b0 : decide ((rd l0 x7_4) < 0) = false := decide_eq_false c17
               clear c17
               by_cases c18 : x6_1.length < 4398046511104
               ·rw [if_pos c18] at H
                have LMc18 := Zm c18
                clear c18
                obtain ⟨y226, hy226⟩ : ∃ y_ : List (S40), y_ = (x6_1 ++ [(⟨x7_1, wrap64 (x7_4 - x7_1), x8_1, wrap64 ((rd l0 x7_4) - x8_1)⟩ : S40)]) := ⟨_, rfl⟩
                replace H : (r06_Of.l0 k4 l0 a1 y226 x7_4 (rd l0 x7_4)) = some r := by first | (rw [hy226]; with_reducible exact H) | (have H2_ := (Option.bind_some _ _).symm.trans H; rw [hy226]; with_reducible exact H2_) | (have H2_ := (Option.bind_some _ _).symm.trans H; with_reducible exact H2_) | with_reducible exact H | (rw [hy226]; exact H) | exact H
                have Ny226 := Zm hy226
                clear hy226
                have H' := Zm H
                clear H
                have p224 : 0 ≤ (x7_4 : Int) := Zo (by first | (with_reducible assumption) | assumption)
                have q224 : x7_4 < (l0.length : Int) := Zo (by first | (with_reducible assumption) | assumption)
                obtain ⟨ad224, e224, hx224_0⟩ := Kd.at_int HR0.out x7_4 p224 q224
                cases e224
                replace hx224_0 := (HB.out.cell (World.block_lt_of_cell? w _ hx224_0)).trans hx224_0
                replace p224 := eq_true p224
                replace q224 := eq_true q224
                have p225 : 0 ≤ (x7_4 : Int) := Zo (by first | (with_reducible assumption) | assumption)
                have q225 : x7_4 < (l0.length : Int) := Zo (by first | (with_reducible assumption) | assumption)
                obtain ⟨ad225, e225, hx225_0⟩ := Kd.at_int HR0.out x7_4 p225 q225
                obtain rfl : ad224 = ad225 := (by injection e225)
                replace hx225_0 := (HB.out.cell (World.block_lt_of_cell? w _ hx225_0)).trans hx225_0
                replace p225 := eq_true p225
                replace q225 := eq_true q225
                have hcz19_0 : wr.cell? ⟨gb223, 0, none⟩ = some (.int .i64 x7_1) := (blk_cell BK223.out 0).trans rfl
                have hcz19_1 : wr.cell? ⟨gb223, 1, none⟩ = some (.int .i64 0) := (blk_cell BK223.out 1).trans rfl
                have hcz19_2 : wr.cell? ⟨gb223, 2, none⟩ = some (.int .i64 x8_1) := (blk_cell BK223.out 2).trans rfl
                have hcz19_3 : wr.cell? ⟨gb223, 3, none⟩ = some (.int .i64 0) := (blk_cell BK223.out 3).trans rfl
                have hfz19_0 := blk_frozen BK223.out 0
                have hfz19_1 := blk_frozen BK223.out 1
                have hfz19_2 := blk_frozen BK223.out 2
                have hfz19_3 := blk_frozen BK223.out 3
                go_wp2_with (first | ((with_reducible refine gate_builtin (b := .append) (xs := #[.tmp 75, .tmp 77]) rfl ?_); at_builtin; refine Kd.R_append k40 (w0 := w) w.heap.size rfl (.tmp 75) (.tmp 77) 27 40 (.agg #[(.int .i64 0), (.int .i64 0), (.int .i64 0), (.int .i64 0)]) 32 rfl Try.underlying27 info40 rfl (by decide) (by omega) u6 x6_1 (⟨x7_1, wrap64 (x7_4 - x7_1), x8_1, wrap64 ((rd l0 x7_4) - x8_1)⟩ : S40) [.int .i64 x7_1, .int .i64 (wrap64 (x7_4 - x7_1)), .int .i64 x8_1, .int .i64 (wrap64 ((rd l0 x7_4) - x8_1))] (fun k_ => k_ ≠ gb223) (fun _ => False) rfl (by first | (go_simp; done) | (go_simp; rfl)) ?aP (fun _ hk => hk.elim) ?aF ?aO ?aB ?aS ?aL ?_; (case aP => exact k40_mkM _ _ _ (⟨x7_1, wrap64 (x7_4 - x7_1), x8_1, wrap64 ((rd l0 x7_4) - x8_1)⟩ : S40)); (case aB => exact (by repeat (first | (with_reducible first | exact HB.out | apply below_alloc | apply Zd | apply below_drew1 | refine below_set ?_ GE223.out) | exact HB.out))); (case aF => exact (fun k_ hk => Kd.freshB (g := gb223) (o := .cells #[.int .i64 x7_1, .int .i64 (wrap64 (x7_4 - x7_1)), .int .i64 x8_1, .int .i64 (wrap64 ((rd l0 x7_4) - x8_1))] 40 (0, 0)) (by (with_reducible repeat (first | refine blk_drewN ?_ _ | refine blk_drew ?_ | refine blk_alloc ?_ _)); refine blk_put (cs := #[.int .i64 x7_1, .int .i64 (wrap64 (x7_4 - x7_1)), .int .i64 x8_1, .int .i64 0]) ?_ 3 _ rfl; (with_reducible repeat (first | refine blk_drewN ?_ _ | refine blk_drew ?_ | refine blk_alloc ?_ _)); refine blk_put (cs := #[.int .i64 x7_1, .int .i64 0, .int .i64 x8_1, .int .i64 0]) ?_ 1 _ rfl; (with_reducible repeat (first | refine blk_drewN ?_ _ | refine blk_drew ?_ | refine blk_alloc ?_ _)); exact BK223.out) k_ hk)); (case aO => exact (by (with_reducible repeat (first | apply Kd.R_alloc | apply Kd.R_drewN | apply Kd.R_drew)); exact Kd.R_mono (Kd.R_far (p := ⟨gb223, 3, none⟩) (Kd.R_far (p := ⟨gb223, 1, none⟩) (Kd.R_mono HO_6.out (fun k_ hk => (⟨hk, hk⟩ : _ ∧ k_ ≠ gb223))) (fun _ hk => hk.2) (.int .i64 (wrap64 (x7_4 - x7_1)))) (fun _ hk => hk.2) (.int .i64 (wrap64 ((rd l0 x7_4) - x8_1)))) (fun _ hk => hk.1))); (case aS => exact (below_size (by repeat (first | (with_reducible first | exact HB.out | apply below_alloc | apply Zd | apply below_drew1 | refine below_set ?_ GE223.out) | exact HB.out)))); (case aL => have := LMc18.out; omega); intro v227 w20 ho hb hg hat; rw [← Ny226.out] at ho; have n0_ := Zm (blk_grown (g := gb223) (o := .cells #[.int .i64 x7_1, .int .i64 (wrap64 (x7_4 - x7_1)), .int .i64 x8_1, .int .i64 (wrap64 ((rd l0 x7_4) - x8_1))] 40 (0, 0)) (by (with_reducible repeat (first | refine blk_drewN ?_ _ | refine blk_drew ?_ | refine blk_alloc ?_ _)); refine blk_put (cs := #[.int .i64 x7_1, .int .i64 (wrap64 (x7_4 - x7_1)), .int .i64 x8_1, .int .i64 0]) ?_ 3 _ rfl; (with_reducible repeat (first | refine blk_drewN ?_ _ | refine blk_drew ?_ | refine blk_alloc ?_ _)); refine blk_put (cs := #[.int .i64 x7_1, .int .i64 0, .int .i64 x8_1, .int .i64 0]) ?_ 1 _ rfl; (with_reducible repeat (first | refine blk_drewN ?_ _ | refine blk_drew ?_ | refine blk_alloc ?_ _)); exact BK223.out) hg (Kd.R_away HO_6.out (fun _ hk => hk))); have n1_ := Zm (hb); have n2_ := Zm (ho); clear BK223; clear HB; clear HO_6; have BK223 := n0_; have HB := n1_; have HO228 := n2_; clear n0_ n1_ n2_; clear ho hb hg hat))
                go_roundg k4
                case measure => have := HK1.out; have := HJ5.out; have := HJ8.out; have := HK4.out; omega
                case rel => exact ⟨(y226), (x7_4), (rd l0 x7_4), (by first | rfl | (simp; done) | (simp [*]; done)), (by first | rfl | (simp; done) | (simp [*]; done)), H', ⟨by have := HK1.out; have := HJ5.out; have := HJ8.out; have := HK4.out; omega⟩, ⟨by (with_reducible repeat (first | apply Kd.R_alloc | apply Kd.R_drewN | apply Kd.R_drew)); exact Kd.R_mono HO228.out (fun _ hk => trivial)⟩, ⟨by repeat (first | (with_reducible first | exact HB.out | apply below_alloc | apply Zd | apply below_drew1 | refine below_set ?_ GE223.out) | exact HB.out)⟩⟩
               ·rw [if_neg c18] at H
                exact absurd H (by simp)
             ·rw [if_neg c16] at H
              exact absurd H (by simp)
            ·rw [if_neg c15] at H
             have c15b0 : decide (x7_4 < (l0.length : Int)) = false := decide_eq_false c15
             clear c15
             by_cases c21 : x6_1.length < 4398046511104
             ·rw [if_pos c21] at H
              have LMc21 := Zm c21
              clear c21
              obtain ⟨y229, hy229⟩ : ∃ y_ : List (S40), y_ = (x6_1 ++ [(⟨x7_1, wrap64 (x7_4 - x7_1), x8_1, wrap64 (a1 - x8_1)⟩ : S40)]) := ⟨_, rfl⟩
              replace H : (r06_Of.l0 k4 l0 a1 y229 x7_4 a1) = some r := by first | (rw [hy229]; with_reducible exact H) | (have H2_ := (Option.bind_some _ _).symm.trans H; rw [hy229]; with_reducible exact H2_) | (have H2_ := (Option.bind_some _ _).symm.trans H; with_reducible exact H2_) | with_reducible exact H | (rw [hy229]; exact H) | exact H
              have Ny229 := Zm hy229
              clear hy229
              have H' := Zm H
              clear H
              have hcz22_0 : wr.cell? ⟨gb223, 0, none⟩ = some (.int .i64 x7_1) := (blk_cell BK223.out 0).trans rfl
              have hcz22_1 : wr.cell? ⟨gb223, 1, none⟩ = some (.int .i64 0) := (blk_cell BK223.out 1).trans rfl
              have hcz22_2 : wr.cell? ⟨gb223, 2, none⟩ = some (.int .i64 x8_1) := (blk_cell BK223.out 2).trans rfl
              have hcz22_3 : wr.cell? ⟨gb223, 3, none⟩ = some (.int .i64 0) := (blk_cell BK223.out 3).trans rfl
              have hfz22_0 := blk_frozen BK223.out 0
              have hfz22_1 := blk_frozen BK223.out 1
              have hfz22_2 := blk_frozen BK223.out 2
              have hfz22_3 := blk_frozen BK223.out 3
              go_wp2_with (first | ((with_reducible refine gate_builtin (b := .append) (xs := #[.tmp 75, .tmp 77]) rfl ?_); at_builtin; refine Kd.R_append k40 (w0 := w) w.heap.size rfl (.tmp 75) (.tmp 77) 27 40 (.agg #[(.int .i64 0), (.int .i64 0), (.int .i64 0), (.int .i64 0)]) 32 rfl Try.underlying27 info40 rfl (by decide) (by omega) u6 x6_1 (⟨x7_1, wrap64 (x7_4 - x7_1), x8_1, wrap64 (a1 - x8_1)⟩ : S40) [.int .i64 x7_1, .int .i64 (wrap64 (x7_4 - x7_1)), .int .i64 x8_1, .int .i64 (wrap64 (a1 - x8_1))] (fun k_ => k_ ≠ gb223) (fun _ => False) rfl (by first | (go_simp; done) | (go_simp; rfl)) ?aP (fun _ hk => hk.elim) ?aF ?aO ?aB ?aS ?aL ?_; (case aP => exact k40_mkM _ _ _ (⟨x7_1, wrap64 (x7_4 - x7_1), x8_1, wrap64 (a1 - x8_1)⟩ : S40)); (case aB => exact (by repeat (first | (with_reducible first | exact HB.out | apply below_alloc | apply Zd | apply below_drew1 | refine below_set ?_ GE223.out) | exact HB.out))); (case aF => exact (fun k_ hk => Kd.freshB (g := gb223) (o := .cells #[.int .i64 x7_1, .int .i64 (wrap64 (x7_4 - x7_1)), .int .i64 x8_1, .int .i64 (wrap64 (a1 - x8_1))] 40 (0, 0)) (by (with_reducible repeat (first | refine blk_drewN ?_ _ | refine blk_drew ?_ | refine blk_alloc ?_ _)); refine blk_put (cs := #[.int .i64 x7_1, .int .i64 (wrap64 (x7_4 - x7_1)), .int .i64 x8_1, .int .i64 0]) ?_ 3 _ rfl; (with_reducible repeat (first | refine blk_drewN ?_ _ | refine blk_drew ?_ | refine blk_alloc ?_ _)); refine blk_put (cs := #[.int .i64 x7_1, .int .i64 0, .int .i64 x8_1, .int .i64 0]) ?_ 1 _ rfl; (with_reducible repeat (first | refine blk_drewN ?_ _ | refine blk_drew ?_ | refine blk_alloc ?_ _)); exact BK223.out) k_ hk)); (case aO => exact (by (with_reducible repeat (first | apply Kd.R_alloc | apply Kd.R_drewN | apply Kd.R_drew)); exact Kd.R_mono (Kd.R_far (p := ⟨gb223, 3, none⟩) (Kd.R_far (p := ⟨gb223, 1, none⟩) (Kd.R_mono HO_6.out (fun k_ hk => (⟨hk, hk⟩ : _ ∧ k_ ≠ gb223))) (fun _ hk => hk.2) (.int .i64 (wrap64 (x7_4 - x7_1)))) (fun _ hk => hk.2) (.int .i64 (wrap64 (a1 - x8_1)))) (fun _ hk => hk.1))); (case aS => exact (below_size (by repeat (first | (with_reducible first | exact HB.out | apply below_alloc | apply Zd | apply below_drew1 | refine below_set ?_ GE223.out) | exact HB.out)))); (case aL => have := LMc21.out; omega); intro v230 w23 ho hb hg hat; rw [← Ny229.out] at ho; have n0_ := Zm (blk_grown (g := gb223) (o := .cells #[.int .i64 x7_1, .int .i64 (wrap64 (x7_4 - x7_1)), .int .i64 x8_1, .int .i64 (wrap64 (a1 - x8_1))] 40 (0, 0)) (by (with_reducible repeat (first | refine blk_drewN ?_ _ | refine blk_drew ?_ | refine blk_alloc ?_ _)); refine blk_put (cs := #[.int .i64 x7_1, .int .i64 (wrap64 (x7_4 - x7_1)), .int .i64 x8_1, .int .i64 0]) ?_ 3 _ rfl; (with_reducible repeat (first | refine blk_drewN ?_ _ | refine blk_drew ?_ | refine blk_alloc ?_ _)); refine blk_put (cs := #[.int .i64 x7_1, .int .i64 0, .int .i64 x8_1, .int .i64 0]) ?_ 1 _ rfl; (with_reducible repeat (first | refine blk_drewN ?_ _ | refine blk_drew ?_ | refine blk_alloc ?_ _)); exact BK223.out) hg (Kd.R_away HO_6.out (fun _ hk => hk))); have n1_ := Zm (hb); have n2_ := Zm (ho); clear BK223; clear HB; clear HO_6; have BK223 := n0_; have HB := n1_; have HO231 := n2_; clear n0_ n1_ n2_; clear ho hb hg hat))
              go_roundg k4
              case measure => have := HK1.out; have := HJ5.out; have := HJ8.out; have := HK4.out; omega
              case rel => exact ⟨(y229), (x7_4), (a1), (by first | rfl | (simp; done) | (simp [*]; done)), (by first | rfl | (simp; done) | (simp [*]; done)), H', ⟨by have := HK1.out; have := HJ5.out; have := HJ8.out; have := HK4.out; omega⟩, ⟨by (with_reducible repeat (first | apply Kd.R_alloc | apply Kd.R_drewN | apply Kd.R_drew)); exact Kd.R_mono HO231.out (fun _ hk => trivial)⟩, ⟨by repeat (first | (with_reducible first | exact HB.out | apply below_alloc | apply Zd | apply below_drew1 | refine below_set ?_ GE223.out) | exact HB.out)⟩⟩
             ·rw [if_neg c21] at H
              exact absurd H (by simp)
      ·replace c8 := Bool.eq_false_iff.mpr c8
       subst c8
       have H1 : (some x6_1) = some r := by rw [if_neg (show ¬ (false = true) by decide)] at H; exact H
       clear H
       have H := H1
       clear H1
       obtain rfl := Option.some.inj H
       go_wp2
       go_ret
       exact ⟨_, by first | rfl | (simp [errW_none, errW_some] <;> rfl) | (simp [*, errW_none, errW_some] <;> rfl), by (with_reducible repeat (first | apply Kd.R_alloc | apply Kd.R_drewN | apply Kd.R_drew)); exact HO_6.out, by repeat (first | (with_reducible first | exact HB.out | apply below_alloc | apply Zd | apply below_drew1) | exact HB.out)⟩
 ·replace c4 := Bool.eq_false_iff.mpr c4
  subst c4
  have H1 : (some ([] : List (S40))) = some r := by rw [if_neg (show ¬ (false = true) by decide)] at H; exact H
  clear H
  have H := H1
  clear H1
  obtain rfl := Option.some.inj H
  go_enter Try.func10, Try.ntmps10
  go_wp2_with (first | ((with_reducible refine gate_callee (f := 26) rfl ?_); refine goesL_ (some 12) rfl rfl Try.func26 (by kernel_rfl) rfl #[.slice A0 l0.length c0, .int .i64 a1] rfl (by (try simp only [List.map_toArray, List.map_cons, List.map_nil]); first | done | rfl | (simp only [List.length_drop, List.length_take]; rfl)) ?_; (with_reducible refine (r06_match.calls k _ _ l0 a1 false _ ?side1 ?side2 A3.out).mono ?_); (case side1 => repeat (first | exact HR0.out | (with_reducible refine Kd.C_alloc ?_ _) | (with_reducible refine Kd.C_drewN ?_ _) | (with_reducible refine Kd.C_drew ?_))); (case side2 => exact HC0.out); rintro e w24 ⟨rfl, hb⟩; refine ⟨_, rfl, ?_⟩; have n0_ := Zm (below_step (by repeat (first | (with_reducible first | exact HB.out | apply below_alloc | apply Zd | apply below_drew1) | exact HB.out)) hb); clear HB; have HB := n0_; clear n0_; (try clear hb); (try clear hb2); (try clear hk); (try clear hi)))
  go_ret
  exact ⟨_, by first | rfl | (simp [errW_none, errW_some] <;> rfl) | (simp [*, errW_none, errW_some] <;> rfl), by first | exact Kd.R_nil _ _ _ _ _ | exact Kd.N_nil _ _ _ _ _ | exact Kd.V_nil _ _ _ _ _ | exact Kd.Q_nil _ _ _ _ _ | exact Kd.S_nil _ _ _ _ _, by repeat (first | (with_reducible first | exact HB.out | apply below_alloc | apply Zd | apply below_drew1) | exact HB.out)⟩
end Go.Proofs.Ytphghffdaceaoaa.PHunk
