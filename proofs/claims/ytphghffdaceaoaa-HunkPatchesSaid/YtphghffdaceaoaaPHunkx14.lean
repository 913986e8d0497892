/- Laid by a program of this session out of the seat's translation. -/
import Derived.Test.YtphghffdaceaoaaPHunkx0
import Derived.Test.YtphghffdaceaoaaPHunkx2
import Derived.Test.YtphghffdaceaoaaPHunkx5
import Derived.Test.YtphghffdaceaoaaPHunkx8
import Derived.Test.YtphghffdaceaoaaPHunkx9
import Derived.Test.YtphghffdaceaoaaPHunkx13
namespace Go.Proofs.Ytphghffdaceaoaa.PHunk
open Go.RowKit Go.Proofs.YtphghffdaceaoaaW.PrintWords Go.Proofs.YtphghffdaceaoaaW.PrintLast Go.Proofs.YtphghffdaceaoaaW.PrintMore
attribute [local go_sem] max2_int min2_int max_two min_two max_three min_three max_four min_four   -- for this text's walks alone
set_option linter.unusedVariables false
set_option linter.unusedSimpArgs false
/-! ### l06_HunkTells: function 3 -/
def l06_HunkTells.j0 : Nat → List Int → Int → List (List ByteArray) → Bool → Option (Bool)
 | 0, _, _, _, _ => none
 | k + 1, x0, x1, x2, x36 => if x36 = true then (some true) else ((hunk_Of.f k x0 x1).bind fun t323 => ((r06_Of.f k x0 x1).bind fun t326 => ((r06_Same.f k t323 t326).bind fun t329 => (if t329 = true then (if 0 < (x2.length : Int) then (if 1 < (x2.length : Int) then ((hunk_Texts.f k (rd_L5 x2 0) (rd_L5 x2 1)).bind fun t332 => ((r06_Texts.f k (rd_L5 x2 0) (rd_L5 x2 1)).bind fun t337 => ((r06_Same.f k t332 t337).bind fun t340 => (some t340)))) else (none)) else (none)) else (none)))))
def l06_HunkTells.f (k : Nat) (l0 : List Int) (a1 : Int) (l2 : List (List ByteArray)) : Option (Bool) := (l06_awake.f k).bind fun t320 => (if t320 = true then (if (l0.length : Int) > 200 then (l06_HunkTells.j0 k l0 a1 l2 true) else (if a1 > 1000000 then (l06_HunkTells.j0 k l0 a1 l2 true) else (if (l2.length : Int) < 2 then (l06_HunkTells.j0 k l0 a1 l2 true) else (if 0 < (l2.length : Int) then (if ((rd_L5 l2 0).length : Int) > 100 then (l06_HunkTells.j0 k l0 a1 l2 true) else (if 1 < (l2.length : Int) then (l06_HunkTells.j0 k l0 a1 l2 (decide (((rd_L5 l2 1).length : Int) > 100))) else (none))) else (none))))) else (none))
theorem l06_HunkTells.mono_l : ∀ k, (∀ y0 y1 y2 y3, LeO (l06_HunkTells.j0 k y0 y1 y2 y3) (l06_HunkTells.j0 (k + 1) y0 y1 y2 y3))
 | 0 => fun _ _ _ _ r h => by simp [l06_HunkTells.j0] at h
 | k + 1 => by
  have ih0 := l06_HunkTells.mono_l k
  ·intro y0 y1 y2 y3
   unfold l06_HunkTells.j0
   repeat' first
   | (with_reducible exact ih0 _ _ _ _)
   | (with_reducible exact l06_awake.mono _)
   | (with_reducible exact r06_Of.mono _ _ _)
   | (with_reducible exact r06_Same.mono _ _ _)
   | (with_reducible exact r06_Texts.mono _ _ _)
   | (with_reducible exact hunk_Of.mono _ _ _)
   | (with_reducible exact hunk_Texts.mono _ _ _)
   | (with_reducible exact LeO.refl _)
   | (with_reducible exact LeO.none _)
   | (with_reducible refine LeO.ite ?_ ?_)
   | (with_reducible refine LeO.bind ?_ (fun _ => ?_))
   | exact ih0 _ _ _ _
   | exact l06_awake.mono _
   | exact r06_Of.mono _ _ _
   | exact r06_Same.mono _ _ _
   | exact r06_Texts.mono _ _ _
   | exact hunk_Of.mono _ _ _
   | exact hunk_Texts.mono _ _ _
   | exact LeO.none _
   | refine LeO.ite ?_ ?_
   | refine LeO.bind ?_ (fun _ => ?_)
theorem l06_HunkTells.mono : ∀ a0 a1 a2 k, LeO (l06_HunkTells.f k a0 a1 a2) (l06_HunkTells.f (k + 1) a0 a1 a2) := by
 intro a0 a1 a2 k
 have ih0 := l06_HunkTells.mono_l k
 unfold l06_HunkTells.f
 repeat' first
   | (with_reducible exact ih0 _ _ _ _)
   | (with_reducible exact l06_awake.mono _)
   | (with_reducible exact r06_Of.mono _ _ _)
   | (with_reducible exact r06_Same.mono _ _ _)
   | (with_reducible exact r06_Texts.mono _ _ _)
   | (with_reducible exact hunk_Of.mono _ _ _)
   | (with_reducible exact hunk_Texts.mono _ _ _)
   | (with_reducible exact LeO.refl _)
   | (with_reducible exact LeO.none _)
   | (with_reducible refine LeO.ite ?_ ?_)
   | (with_reducible refine LeO.bind ?_ (fun _ => ?_))
   | exact ih0 _ _ _ _
   | exact l06_awake.mono _
   | exact r06_Of.mono _ _ _
   | exact r06_Same.mono _ _ _
   | exact r06_Texts.mono _ _ _
   | exact hunk_Of.mono _ _ _
   | exact hunk_Texts.mono _ _ _
   | exact LeO.none _
   | refine LeO.ite ?_ ?_
   | refine LeO.bind ?_ (fun _ => ?_)
def l06_HunkTells.T6 : Bool × List (List Nat × List Nat) := (true, [([], []), ([], []), ([0, 1], [0, 1]), ([], []), ([], []), ([3, 4, 2], [3, 4]), ([2, 5, 5], [2, 5]), ([6, 6], [6]), ([7], [7]), ([8, 7], [7, 8]), ([9, 7], [7, 9]), ([7], [7]), ([11, 7], [7, 11]), ([12, 7], [7, 12]), ([10, 13, 7, 7], [7, 10, 13]), ([7], [7]), ([15, 7], [7, 15]), ([16, 7], [7, 16]), ([7], [7]), ([18, 7], [7, 18]), ([19, 7], [7, 19]), ([17, 20, 14, 7], [7, 17, 20]), ([14, 21, 21, 7], [7, 14, 21]), ([7, 22], [7, 22]), ([23, 22, 0, 1, 2, 3, 4, 5, 6, 7, 8, 9, 10, 11, 12, 13, 14, 15, 16, 17, 18, 19, 20, 21, 22, 23], [23])])
def l06_HunkTells.B6 : List Nat := [0, 0, 3, 0, 0, 31, 63, 127, 255, 511, 1023, 255, 2303, 6399, 16383, 255, 33023, 98559, 255, 262399, 786687, 2097151, 4194303, 8388607, 16777215]
theorem l06_HunkTells.tab6 : rtab .any (opsOf Try.f3 6) = l06_HunkTells.T6 := by kernel_rfl
theorem l06_HunkTells.bits6 : waitsOk l06_HunkTells.T6.2 l06_HunkTells.B6 = true := by kernel_rfl
set_option maxHeartbeats 8000000 in
set_option maxRecDepth 100000 in
theorem l06_HunkTells.calls (k : Nat) (A0 : Option Addr) (c0 : Nat) (l0 : List Int) (a1 : Int) (A2 : Option Addr) (c2 : Nat) (l2 : List (List ByteArray)) (r : Bool) (w : World) (hr0 : Kd.C (Kd.int .i64) w A0 l0.length l0) (hc0 : l0.length ≤ c0) (hr2 : Kd.C (Kd.slice 9 Kd.string) w A2 l2.length l2) (hc2 : l2.length ≤ c2) (h : l06_HunkTells.f k l0 a1 l2 = some r) :
  Calls Try.prog 3 #[.slice A0 l0.length c0, .int .i64 a1, .slice A2 l2.length c2] w fun e w' => e = .returned (.bool r) ∧ Below w.heap.size w w' := by
 have HR0 := Zm hr0
 have HC0 := Zm hc0
 clear hr0 hc0
 have HR2 := Zm hr2
 have HC2 := Zm hc2
 clear hr2 hc2
 have HB := Zm (Below.refl w.heap.size w)
 have H : ((l06_awake.f k).bind fun t320 => (if t320 = true then (if (l0.length : Int) > 200 then (l06_HunkTells.j0 k l0 a1 l2 true) else (if a1 > 1000000 then (l06_HunkTells.j0 k l0 a1 l2 true) else (if (l2.length : Int) < 2 then (l06_HunkTells.j0 k l0 a1 l2 true) else (if 0 < (l2.length : Int) then (if ((rd_L5 l2 0).length : Int) > 100 then (l06_HunkTells.j0 k l0 a1 l2 true) else (if 1 < (l2.length : Int) then (l06_HunkTells.j0 k l0 a1 l2 (decide (((rd_L5 l2 1).length : Int) > 100))) else (none))) else (none))))) else (none))) = some r := h
 clear h
 replace H := Option.bind_eq_some_iff.mp H
 obtain ⟨t320, A40, H⟩ := H
 replace H : (if t320 = true then (if (l0.length : Int) > 200 then (l06_HunkTells.j0 k l0 a1 l2 true) else (if a1 > 1000000 then (l06_HunkTells.j0 k l0 a1 l2 true) else (if (l2.length : Int) < 2 then (l06_HunkTells.j0 k l0 a1 l2 true) else (if 0 < (l2.length : Int) then (if ((rd_L5 l2 0).length : Int) > 100 then (l06_HunkTells.j0 k l0 a1 l2 true) else (if 1 < (l2.length : Int) then (l06_HunkTells.j0 k l0 a1 l2 (decide (((rd_L5 l2 1).length : Int) > 100))) else (none))) else (none))))) else (none)) = some r := H
 have A4 := Zm A40
 clear A40
 by_cases c5 : t320 = true
 ·subst c5
  have H1 : (if (l0.length : Int) > 200 then (l06_HunkTells.j0 k l0 a1 l2 true) else (if a1 > 1000000 then (l06_HunkTells.j0 k l0 a1 l2 true) else (if (l2.length : Int) < 2 then (l06_HunkTells.j0 k l0 a1 l2 true) else (if 0 < (l2.length : Int) then (if ((rd_L5 l2 0).length : Int) > 100 then (l06_HunkTells.j0 k l0 a1 l2 true) else (if 1 < (l2.length : Int) then (l06_HunkTells.j0 k l0 a1 l2 (decide (((rd_L5 l2 1).length : Int) > 100))) else (none))) else (none))))) = some r := by rw [if_pos rfl] at H; exact H
  clear H
  have H := H1
  clear H1
  have HC6 := Zm H
  clear H
  go_enter Try.func3, Try.ntmps3
  go_upto_region 4 with (first | ((with_reducible refine gate_callee (f := 7) rfl ?_); refine goesL_ (some 8) rfl rfl Try.func7 (by kernel_rfl) rfl #[] rfl (by (try simp only [List.map_toArray, List.map_cons, List.map_nil]); first | done | rfl | (simp only [List.length_drop, List.length_take]; rfl)) ?_; (with_reducible refine (l06_awake.calls k  true _ A4.out).mono ?_); rintro e w7 ⟨rfl, hb⟩; refine ⟨_, rfl, ?_⟩; have n0_ := Zm (below_step (by repeat (first | (with_reducible first | exact HB.out | apply below_alloc | apply Zd | apply below_drew1) | exact HB.out)) hb); clear HB; have HB := n0_; clear n0_; (try clear hb); (try clear hb2); (try clear hk); (try clear hi)))
  (try simp only [Act.put, List.setIfInBounds_toArray, List.set_cons_zero, List.set_cons_succ])
  go_cut [36] (fun v36 wc => ∃ (kq : Nat) (x36_5 : Bool), v36 = .bool x36_5 ∧ Aside0 (l06_HunkTells.j0 kq l0 a1 l2 x36_5 = some r) ∧ Aside0 (kq ≤ k) ∧ Aside0 (Below w.heap.size w wc))
  case first =>
   have H := HC6.out
   clear HC6
   by_cases c8 : (l0.length : Int) > 200
   ·rw [if_pos c8] at H
    have c8b0 : decide (200 < (l0.length : Int)) = true := decide_eq_true c8
    have c8b1 : decide (200 < l0.length) = true := decide_eq_true (by omega)
    clear c8
    (first | rw [c8b0] | (simp only [i64_w, i32_w]; rw [c8b0]) | skip)
    have H' := Zm H
    clear H
    go_wp2
    go_meet
    case rel => exact ⟨_, (true), (by first | rfl | (simp; done) | (simp [*]; done)), H', ⟨by first | omega | exact Nat.le_refl _⟩, ⟨by repeat (first | (with_reducible first | exact HB.out | apply below_alloc | apply Zd | apply below_drew1) | exact HB.out)⟩⟩
   ·rw [if_neg c8] at H
    have c8b0 : decide (200 < (l0.length : Int)) = false := decide_eq_false c8
    have c8b1 : decide (200 < l0.length) = false := decide_eq_false (by omega)
    clear c8
    (first | rw [c8b0] | (simp only [i64_w, i32_w]; rw [c8b0]) | skip)
    by_cases c9 : a1 > 1000000
    ·rw [if_pos c9] at H
     have c9b0 : decide (1000000 < a1) = true := decide_eq_true c9
     clear c9
     have H' := Zm H
     clear H
     go_wp2
     go_meet
     case rel => exact ⟨_, (true), (by first | rfl | (simp; done) | (simp [*]; done)), H', ⟨by first | omega | exact Nat.le_refl _⟩, ⟨by repeat (first | (with_reducible first | exact HB.out | apply below_alloc | apply Zd | apply below_drew1) | exact HB.out)⟩⟩
    ·rw [if_neg c9] at H
     have c9b0 : decide (1000000 < a1) = false := decide_eq_false c9
     clear c9
     by_cases c10 : (l2.length : Int) < 2
     ·rw [if_pos c10] at H
      have c10b0 : decide ((l2.length : Int) < 2) = true := decide_eq_true c10
      have c10b1 : decide (l2.length < 2) = true := decide_eq_true (by omega)
      clear c10
      have H' := Zm H
      clear H
      go_wp2
      go_meet
      case rel => exact ⟨_, (true), (by first | rfl | (simp; done) | (simp [*]; done)), H', ⟨by first | omega | exact Nat.le_refl _⟩, ⟨by repeat (first | (with_reducible first | exact HB.out | apply below_alloc | apply Zd | apply below_drew1) | exact HB.out)⟩⟩
     ·rw [if_neg c10] at H
      have c10b0 : decide ((l2.length : Int) < 2) = false := decide_eq_false c10
      have c10b1 : decide (l2.length < 2) = false := decide_eq_false (by omega)
      clear c10
      by_cases c11 : 0 < (l2.length : Int)
      ·rw [if_pos c11] at H
       have c11b0 : decide (0 < (l2.length : Int)) = true := decide_eq_true c11
       have c11b1 : decide (0 < l2.length) = true := decide_eq_true (by omega)
       clear c11
       by_cases c12 : ((rd_L5 l2 0).length : Int) > 100
       ·rw [if_pos c12] at H
        have c12b0 : decide (100 < ((rd_L5 l2 0).length : Int)) = true := decide_eq_true c12
        have c12b1 : decide (100 < (rd_L5 l2 0).length) = true := decide_eq_true (by omega)
        clear c12
        have H' := Zm H
        clear H
        have p321 : 0 ≤ (0 : Int) := (by omega)
        have q321 : 0 < (l2.length : Int) := Zo (by first | (with_reducible assumption) | assumption)
        obtain ⟨ad321, A321_0, c321_0, e321, hx321_0, hl321_0, hi321_0⟩ := at_L5 HR2.out 0 p321 q321
        cases e321
        have qi321 : (0 < l2.length) = True := eq_true (by omega)
        (try rw [show ((0 : Int)).toNat = 0 from rfl] at hx321_0)
        (try rw [Addr.add_zero'] at hx321_0)
        replace hx321_0 := (HB.out.cell (World.block_lt_of_cell? w _ hx321_0)).trans hx321_0
        have HR321_0 := Zm hi321_0
        have HC321_0 := Zm hl321_0
        clear hi321_0 hl321_0
        replace p321 := eq_true p321
        replace q321 := eq_true q321
        go_wp2
        go_meet
        case rel => exact ⟨_, (true), (by first | rfl | (simp; done) | (simp [*]; done)), H', ⟨by first | omega | exact Nat.le_refl _⟩, ⟨by repeat (first | (with_reducible first | exact HB.out | apply below_alloc | apply Zd | apply below_drew1) | exact HB.out)⟩⟩
       ·rw [if_neg c12] at H
        have c12b0 : decide (100 < ((rd_L5 l2 0).length : Int)) = false := decide_eq_false c12
        have c12b1 : decide (100 < (rd_L5 l2 0).length) = false := decide_eq_false (by omega)
        clear c12
        by_cases c13 : 1 < (l2.length : Int)
        ·rw [if_pos c13] at H
         have c13b0 : decide (1 < (l2.length : Int)) = true := decide_eq_true c13
         have c13b1 : decide (1 < l2.length) = true := decide_eq_true (by omega)
         clear c13
         have H' := Zm H
         clear H
         have p321 : 0 ≤ (0 : Int) := (by omega)
         have q321 : 0 < (l2.length : Int) := Zo (by first | (with_reducible assumption) | assumption)
         obtain ⟨ad321, A321_0, c321_0, e321, hx321_0, hl321_0, hi321_0⟩ := at_L5 HR2.out 0 p321 q321
         cases e321
         have qi321 : (0 < l2.length) = True := eq_true (by omega)
         (try rw [show ((0 : Int)).toNat = 0 from rfl] at hx321_0)
         (try rw [Addr.add_zero'] at hx321_0)
         replace hx321_0 := (HB.out.cell (World.block_lt_of_cell? w _ hx321_0)).trans hx321_0
         have HR321_0 := Zm hi321_0
         have HC321_0 := Zm hl321_0
         clear hi321_0 hl321_0
         replace p321 := eq_true p321
         replace q321 := eq_true q321
         have p322 : 0 ≤ (1 : Int) := (by omega)
         have q322 : 1 < (l2.length : Int) := Zo (by first | (with_reducible assumption) | assumption)
         obtain ⟨ad322, A322_0, c322_0, e322, hx322_0, hl322_0, hi322_0⟩ := at_L5 HR2.out 1 p322 q322
         obtain rfl : ad321 = ad322 := (by injection e322)
         (try simp only [show (1 : Int).toNat = 1 from rfl, Nat.reduceMul, Nat.reduceEqDiff, Go.Addr.add, ↓reduceIte] at hx322_0)
         have qi322 : (1 < l2.length) = True := eq_true (by omega)
         (try rw [show ((1 : Int)).toNat = 1 from rfl] at hx322_0)
         replace hx322_0 := (HB.out.cell (World.block_lt_of_cell? w _ hx322_0)).trans hx322_0
         have HR322_0 := Zm hi322_0
         have HC322_0 := Zm hl322_0
         clear hi322_0 hl322_0
         replace p322 := eq_true p322
         replace q322 := eq_true q322
         go_wp2
         go_meet
         case rel => exact ⟨_, (decide (((rd_L5 l2 1).length : Int) > 100)), (by first | rfl | (simp; done) | (simp [*]; done)), H', ⟨by first | omega | exact Nat.le_refl _⟩, ⟨by repeat (first | (with_reducible first | exact HB.out | apply below_alloc | apply Zd | apply below_drew1) | exact HB.out)⟩⟩
        ·rw [if_neg c13] at H
         exact absurd H (by simp)
      ·rw [if_neg c11] at H
       exact absurd H (by simp)
  case rest =>
   clear HC6
   try clear c1
   try clear c2
   try clear p2
   try clear c3
   try clear p3
   try clear q3
   try clear hx3
   try clear qi3
   try clear c5
   try clear c7
   try clear c8
   try clear c8b0
   try clear c8b1
   try clear c9
   try clear c9b0
   try clear c10
   try clear c10b0
   try clear c10b1
   try clear c11
   try clear c11b0
   try clear c11b1
   try clear c12
   try clear c12b0
   try clear c12b1
   try clear c13
   try clear c13b0
   try clear c13b1
   try clear hx321_0
   try clear hx322_0
   try clear p321
   try clear p322
   try clear q321
   try clear q322
   obtain ⟨kq, x36_5, rfl, HA, HJ5, HB⟩ := hcut
   cases kq with
   | zero => exact absurd HA.out (by simp [l06_HunkTells.j0])
   | succ kj5 =>
    have H := HA.out
    clear HA
    simp only [l06_HunkTells.j0] at H
    by_cases c14 : x36_5 = true
    ·subst c14
     have H1 : (some true) = some r := by rw [if_pos rfl] at H; exact H
     clear H
     have H := H1
     clear H1
     obtain rfl := Option.some.inj H
     go_wp2
     go_ret
     exact ⟨by first | rfl | (simp [errW_none, errW_some] <;> rfl) | (simp [*, errW_none, errW_some] <;> rfl), by repeat (first | (with_reducible first | exact HB.out | apply below_alloc | apply Zd | apply below_drew1) | exact HB.out)⟩
    ·replace c14 := Bool.eq_false_iff.mpr c14
     subst c14
     have H1 : ((hunk_Of.f kj5 l0 a1).bind fun t323 => ((r06_Of.f kj5 l0 a1).bind fun t326 => ((r06_Same.f kj5 t323 t326).bind fun t329 => (if t329 = true then (if 0 < (l2.length : Int) then (if 1 < (l2.length : Int) then ((hunk_Texts.f kj5 (rd_L5 l2 0) (rd_L5 l2 1)).bind fun t332 => ((r06_Texts.f kj5 (rd_L5 l2 0) (rd_L5 l2 1)).bind fun t337 => ((r06_Same.f kj5 t332 t337).bind fun t340 => (some t340)))) else (none)) else (none)) else (none))))) = some r := by rw [if_neg (show ¬ (false = true) by decide)] at H; exact H
     clear H
     have H := H1
     clear H1
     replace H := Option.bind_eq_some_iff.mp H
     obtain ⟨t323, A150, H⟩ := H
     replace H : ((r06_Of.f kj5 l0 a1).bind fun t326 => ((r06_Same.f kj5 t323 t326).bind fun t329 => (if t329 = true then (if 0 < (l2.length : Int) then (if 1 < (l2.length : Int) then ((hunk_Texts.f kj5 (rd_L5 l2 0) (rd_L5 l2 1)).bind fun t332 => ((r06_Texts.f kj5 (rd_L5 l2 0) (rd_L5 l2 1)).bind fun t337 => ((r06_Same.f kj5 t332 t337).bind fun t340 => (some t340)))) else (none)) else (none)) else (none)))) = some r := H
     have A15 := Zm A150
     clear A150
     replace H := Option.bind_eq_some_iff.mp H
     obtain ⟨t326, A160, H⟩ := H
     replace H : ((r06_Same.f kj5 t323 t326).bind fun t329 => (if t329 = true then (if 0 < (l2.length : Int) then (if 1 < (l2.length : Int) then ((hunk_Texts.f kj5 (rd_L5 l2 0) (rd_L5 l2 1)).bind fun t332 => ((r06_Texts.f kj5 (rd_L5 l2 0) (rd_L5 l2 1)).bind fun t337 => ((r06_Same.f kj5 t332 t337).bind fun t340 => (some t340)))) else (none)) else (none)) else (none))) = some r := H
     have A16 := Zm A160
     clear A160
     replace H := Option.bind_eq_some_iff.mp H
     obtain ⟨t329, A170, H⟩ := H
     replace H : (if t329 = true then (if 0 < (l2.length : Int) then (if 1 < (l2.length : Int) then ((hunk_Texts.f kj5 (rd_L5 l2 0) (rd_L5 l2 1)).bind fun t332 => ((r06_Texts.f kj5 (rd_L5 l2 0) (rd_L5 l2 1)).bind fun t337 => ((r06_Same.f kj5 t332 t337).bind fun t340 => (some t340)))) else (none)) else (none)) else (none)) = some r := H
     have A17 := Zm A170
     clear A170
     by_cases c18 : t329 = true
     ·subst c18
      have H1 : (if 0 < (l2.length : Int) then (if 1 < (l2.length : Int) then ((hunk_Texts.f kj5 (rd_L5 l2 0) (rd_L5 l2 1)).bind fun t332 => ((r06_Texts.f kj5 (rd_L5 l2 0) (rd_L5 l2 1)).bind fun t337 => ((r06_Same.f kj5 t332 t337).bind fun t340 => (some t340)))) else (none)) else (none)) = some r := by rw [if_pos rfl] at H; exact H
      clear H
      have H := H1
      clear H1
      by_cases c19 : 0 < (l2.length : Int)
      ·rw [if_pos c19] at H
       have c19b0 : decide (0 < (l2.length : Int)) = true := decide_eq_true c19
       have c19b1 : decide (0 < l2.length) = true := decide_eq_true (by omega)
       clear c19
       by_cases c20 : 1 < (l2.length : Int)
       ·rw [if_pos c20] at H
        have c20b0 : decide (1 < (l2.length : Int)) = true := decide_eq_true c20
        have c20b1 : decide (1 < l2.length) = true := decide_eq_true (by omega)
        clear c20
        replace H := Option.bind_eq_some_iff.mp H
        obtain ⟨t332, A210, H⟩ := H
        replace H : ((r06_Texts.f kj5 (rd_L5 l2 0) (rd_L5 l2 1)).bind fun t337 => ((r06_Same.f kj5 t332 t337).bind fun t340 => (some t340))) = some r := H
        have A21 := Zm A210
        clear A210
        replace H := Option.bind_eq_some_iff.mp H
        obtain ⟨t337, A220, H⟩ := H
        replace H : ((r06_Same.f kj5 t332 t337).bind fun t340 => (some t340)) = some r := H
        have A22 := Zm A220
        clear A220
        replace H := Option.bind_eq_some_iff.mp H
        obtain ⟨t340, A230, H⟩ := H
        replace H : (some t340) = some r := H
        have A23 := Zm A230
        clear A230
        obtain rfl := Option.some.inj H
        try go_wp2
        have n0_ := Zm (below_drew1 HB.out)
        clear HB
        have HB := n0_
        clear n0_
        have p330 : 0 ≤ (0 : Int) := (by omega)
        have q330 : 0 < (l2.length : Int) := Zo (by first | (with_reducible assumption) | assumption)
        obtain ⟨ad330, A330_0, c330_0, e330, hx330_0, hl330_0, hi330_0⟩ := at_L5 HR2.out 0 p330 q330
        have hw330_0 := hx330_0
        (try rw [show ((0 : Int)).toNat = 0 from rfl] at hw330_0)
        (try rw [show 0 * 1 = 0 from rfl] at hw330_0)
        (try rw [Addr.add_zero'] at hw330_0)
        cases e330
        have qi330 : (0 < l2.length) = True := eq_true (by omega)
        (try rw [show ((0 : Int)).toNat = 0 from rfl] at hx330_0)
        (try rw [Addr.add_zero'] at hx330_0)
        replace hx330_0 := (HB.out.cell (World.block_lt_of_cell? w _ hx330_0)).trans hx330_0
        have HR330_0 := Zm hi330_0
        have HC330_0 := Zm hl330_0
        clear hi330_0 hl330_0
        replace p330 := eq_true p330
        replace q330 := eq_true q330
        have p331 : 0 ≤ (1 : Int) := (by omega)
        have q331 : 1 < (l2.length : Int) := Zo (by first | (with_reducible assumption) | assumption)
        obtain ⟨ad331, A331_0, c331_0, e331, hx331_0, hl331_0, hi331_0⟩ := at_L5 HR2.out 1 p331 q331
        have hw331_0 := hx331_0
        (try rw [show ((1 : Int)).toNat = 1 from rfl] at hw331_0)
        (try rw [show 1 * 1 = 1 from rfl] at hw331_0)
        (try simp only [Nat.reduceMul, Nat.reduceEqDiff, Go.Addr.add, ↓reduceIte] at hw331_0)
        obtain rfl : ad330 = ad331 := (by injection e331)
        (try simp only [show (1 : Int).toNat = 1 from rfl, Nat.reduceMul, Nat.reduceEqDiff, Go.Addr.add, ↓reduceIte] at hx331_0)
        have qi331 : (1 < l2.length) = True := eq_true (by omega)
        (try rw [show ((1 : Int)).toNat = 1 from rfl] at hx331_0)
        replace hx331_0 := (HB.out.cell (World.block_lt_of_cell? w _ hx331_0)).trans hx331_0
        have HR331_0 := Zm hi331_0
        have HC331_0 := Zm hl331_0
        clear hi331_0 hl331_0
        replace p331 := eq_true p331
        replace q331 := eq_true q331
        have p335 : 0 ≤ (0 : Int) := (by omega)
        have q335 : 0 < (l2.length : Int) := Zo (by first | (with_reducible assumption) | assumption)
        obtain ⟨ad335, A335_0, c335_0, e335, hx335_0, hl335_0, hi335_0⟩ := at_L5 HR2.out 0 p335 q335
        have hw335_0 := hx335_0
        (try rw [show ((0 : Int)).toNat = 0 from rfl] at hw335_0)
        (try rw [show 0 * 1 = 0 from rfl] at hw335_0)
        (try rw [Addr.add_zero'] at hw335_0)
        obtain rfl : ad330 = ad335 := (by injection e335)
        have qi335 : (0 < l2.length) = True := eq_true (by omega)
        (try rw [show ((0 : Int)).toNat = 0 from rfl] at hx335_0)
        (try rw [Addr.add_zero'] at hx335_0)
        replace hx335_0 := (HB.out.cell (World.block_lt_of_cell? w _ hx335_0)).trans hx335_0
        have QE335 := Zm (show A330_0 = A335_0 ∧ c330_0 = c335_0 from (by have h_ := hx330_0.symm.trans hx335_0; injection h_ with h_; injection h_ with h1_ h2_ h3_; exact ⟨h1_, h3_⟩))
        have HR335_0 := Zm hi335_0
        have HC335_0 := Zm hl335_0
        clear hi335_0 hl335_0
        replace p335 := eq_true p335
        replace q335 := eq_true q335
        have p336 : 0 ≤ (1 : Int) := (by omega)
        have q336 : 1 < (l2.length : Int) := Zo (by first | (with_reducible assumption) | assumption)
        obtain ⟨ad336, A336_0, c336_0, e336, hx336_0, hl336_0, hi336_0⟩ := at_L5 HR2.out 1 p336 q336
        have hw336_0 := hx336_0
        (try rw [show ((1 : Int)).toNat = 1 from rfl] at hw336_0)
        (try rw [show 1 * 1 = 1 from rfl] at hw336_0)
        (try simp only [Nat.reduceMul, Nat.reduceEqDiff, Go.Addr.add, ↓reduceIte] at hw336_0)
        obtain rfl : ad330 = ad336 := (by injection e336)
        (try simp only [show (1 : Int).toNat = 1 from rfl, Nat.reduceMul, Nat.reduceEqDiff, Go.Addr.add, ↓reduceIte] at hx336_0)
        have qi336 : (1 < l2.length) = True := eq_true (by omega)
        (try rw [show ((1 : Int)).toNat = 1 from rfl] at hx336_0)
        replace hx336_0 := (HB.out.cell (World.block_lt_of_cell? w _ hx336_0)).trans hx336_0
        have QE336 := Zm (show A331_0 = A336_0 ∧ c331_0 = c336_0 from (by have h_ := hx331_0.symm.trans hx336_0; injection h_ with h_; injection h_ with h1_ h2_ h3_; exact ⟨h1_, h3_⟩))
        have HR336_0 := Zm hi336_0
        have HC336_0 := Zm hl336_0
        clear hi336_0 hl336_0
        replace p336 := eq_true p336
        replace q336 := eq_true q336
        refine start_ (n := 25) (S := fun w' => w'.cell? ad330 = some (.slice A330_0 (rd_L5 l2 0).length c330_0) ∧ w'.cell? ⟨ad330.block, ad330.off + 1, none⟩ = some (.slice A331_0 (rd_L5 l2 1).length c331_0) ∧ w'.cell? ad330 = some (.slice A335_0 (rd_L5 l2 0).length c335_0) ∧ w'.cell? ⟨ad330.block, ad330.off + 1, none⟩ = some (.slice A336_0 (rd_L5 l2 1).length c336_0)) (ds := []) #[false, false, false, false, false, false, false, false, false, false, false, false, false, false, false, false, false, false, false, false, false, false, false, false, false] (by kernel_rfl) rfl rfl ⟨((HB.out.cell (World.block_lt_of_cell? w _ hw330_0)).trans hw330_0), ((HB.out.cell (World.block_lt_of_cell? w _ hw331_0)).trans hw331_0), ((HB.out.cell (World.block_lt_of_cell? w _ hw335_0)).trans hw335_0), ((HB.out.cell (World.block_lt_of_cell? w _ hw336_0)).trans hw336_0)⟩ (fun hHeld => ?_); refine with_tabW l06_HunkTells.tab6 l06_HunkTells.bits6 (fun HT_ HW_ => ?_)
        generalize wc.drew = w24 at HB HR330_0 HR331_0 HR335_0 HR336_0 hx330_0 hx331_0 hx335_0 hx336_0 hHeld ⊢
        refine pure_ (i := 0) (N := some 37) (v := ?_) (a' := ?_) #[true, false, false, false, false, false, false, false, false, false, false, false, false, false, false, false, false, false, false, false, false, false, false, false, false] rfl rfl (any_of HT_.out (by kernel_rfl)) (fun _ _ _ h => h) (Or.inl ⟨by rfl, ?_⟩) ?_ ?_
        rotate_left
        ·intro w'
         go_simp
         with_reducible rfl
        rotate_left
        ·simp only [Act.put, List.setIfInBounds_toArray, List.set_cons_zero, List.set_cons_succ, i64_w, i32_w]
         rfl
        refine pure_ (i := 1) (N := some 38) (v := ?_) (a' := ?_) #[true, true, false, false, false, false, false, false, false, false, false, false, false, false, false, false, false, false, false, false, false, false, false, false, false] rfl rfl (any_of HT_.out (by kernel_rfl)) (fun _ _ _ h => h) (Or.inl ⟨by rfl, ?_⟩) ?_ ?_
        rotate_left
        ·intro w'
         go_simp
         with_reducible rfl
        rotate_left
        ·simp only [Act.put, List.setIfInBounds_toArray, List.set_cons_zero, List.set_cons_succ, i64_w, i32_w]
         rfl
        refine pure_ (i := 3) (N := some 40) (v := ?_) (a' := ?_) #[true, true, false, true, false, false, false, false, false, false, false, false, false, false, false, false, false, false, false, false, false, false, false, false, false] rfl rfl (any_of HT_.out (by kernel_rfl)) (fun _ _ _ h => h) (Or.inl ⟨by rfl, ?_⟩) ?_ ?_
        rotate_left
        ·intro w'
         go_simp
         with_reducible rfl
        rotate_left
        ·simp only [Act.put, List.setIfInBounds_toArray, List.set_cons_zero, List.set_cons_succ, i64_w, i32_w]
         rfl
        refine pure_ (i := 4) (N := some 41) (v := ?_) (a' := ?_) #[true, true, false, true, true, false, false, false, false, false, false, false, false, false, false, false, false, false, false, false, false, false, false, false, false] rfl rfl (any_of HT_.out (by kernel_rfl)) (fun _ _ _ h => h) (Or.inl ⟨by rfl, ?_⟩) ?_ ?_
        rotate_left
        ·intro w'
         go_simp
         with_reducible rfl
        rotate_left
        ·simp only [Act.put, List.setIfInBounds_toArray, List.set_cons_zero, List.set_cons_succ, i64_w, i32_w]
         rfl
        refine one_ (i := 2) (N := some 39) #[true, true, true, true, true, false, false, false, false, false, false, false, false, false, false, false, false, false, false, false, false, false, false, false, false] rfl rfl (one_of HT_.out (by kernel_rfl)) (by decide) (fun K hK => ?_)
        refine goes_ Try.func9 (by kernel_rfl) rfl #[.slice A0 l0.length c0, .int .i64 a1] (by rfl) rfl rfl (by (try simp only [List.map_toArray, List.map_cons, List.map_nil]); first | done | rfl | (simp only [List.length_drop, List.length_take]; rfl)) ?_
        with_reducible refine (hunk_Of.calls kj5 _ _ l0 a1 t323 _ ?side1 ?side2 A15.out).mono ?_
        (case side1 => repeat (first | exact (Kd.C_below HR0.out HB.out) | (with_reducible refine Kd.C_alloc ?_ _) | (with_reducible refine Kd.C_drewN ?_ _) | (with_reducible refine Kd.C_drew ?_)))
        (case side2 => exact HC0.out)
        rintro e w25 ⟨v324, rfl, ho0, hb⟩
        refine ⟨_, rfl, ?_⟩
        have n0_ := Zm (Kd.R_lower ho0 (below_size (by repeat (first | (with_reducible first | exact HB.out | apply below_alloc | apply Zd | apply below_drew1) | exact HB.out))))
        have n1_ := Zm (below_step (by repeat (first | (with_reducible first | exact HB.out | apply below_alloc | apply Zd | apply below_drew1) | exact HB.out)) hb)
        clear HB
        have HO325 := n0_
        have HB := n1_
        clear n0_ n1_
        (try clear hb)
        (try clear hb2)
        (try clear hk)
        (try clear hi)
        (try clear ho0)
        refine hK.out _ _ ⟨((HB.out.cell (World.block_lt_of_cell? w _ hw330_0)).trans hw330_0), ((HB.out.cell (World.block_lt_of_cell? w _ hw331_0)).trans hw331_0), ((HB.out.cell (World.block_lt_of_cell? w _ hw335_0)).trans hw335_0), ((HB.out.cell (World.block_lt_of_cell? w _ hw336_0)).trans hw336_0)⟩ (fun hHeld => ?_)
        clear hK K
        refine norm_ (a' := ?_) ?_ ?_
        rotate_left
        ·show Act.put _ (some 39) _ = _
         simp only [Act.put, List.setIfInBounds_toArray, List.set_cons_zero, List.set_cons_succ, i64_w, i32_w]
         rfl
        refine one_ (i := 5) (N := some 42) #[true, true, true, true, true, true, false, false, false, false, false, false, false, false, false, false, false, false, false, false, false, false, false, false, false] rfl rfl (one_of HT_.out (by kernel_rfl)) (by decide) (fun K hK => ?_)
        refine goes_ Try.func10 (by kernel_rfl) rfl #[.slice A0 l0.length c0, .int .i64 a1] (by rfl) rfl rfl (by (try simp only [List.map_toArray, List.map_cons, List.map_nil]); first | done | rfl | (simp only [List.length_drop, List.length_take]; rfl)) ?_
        with_reducible refine (r06_Of.calls kj5 _ _ l0 a1 t326 _ ?side1 ?side2 A16.out).mono ?_
        (case side1 => repeat (first | exact (Kd.C_below HR0.out HB.out) | (with_reducible refine Kd.C_alloc ?_ _) | (with_reducible refine Kd.C_drewN ?_ _) | (with_reducible refine Kd.C_drew ?_)))
        (case side2 => exact HC0.out)
        rintro e w26 ⟨v327, rfl, ho0, hb⟩
        refine ⟨_, rfl, ?_⟩
        have n0_ := Zm (Kd.R_elder' (by (with_reducible repeat (first | apply Kd.R_alloc | apply Kd.R_drewN | apply Kd.R_drew)); exact HO325.out) (Kd.R_base ho0) hb)
        have n1_ := Zm (Kd.R_lower (Kd.R_new' ho0 (Kd.R_lt (by (with_reducible repeat (first | apply Kd.R_alloc | apply Kd.R_drewN | apply Kd.R_drew)); exact HO325.out))) (below_size (by repeat (first | (with_reducible first | exact HB.out | apply below_alloc | apply Zd | apply below_drew1) | exact HB.out))))
        have n2_ := Zm (below_step (by repeat (first | (with_reducible first | exact HB.out | apply below_alloc | apply Zd | apply below_drew1) | exact HB.out)) hb)
        clear HO325
        clear HB
        have HO325 := n0_
        have HO328 := n1_
        have HB := n2_
        clear n0_ n1_ n2_
        (try clear hb)
        (try clear hb2)
        (try clear hk)
        (try clear hi)
        (try clear ho0)
        obtain ⟨Ao27, co27, eo27⟩ := Kd.R_slice HO325.out
        (first | subst eo27 | (injection eo27 with f1_ f2_ f3_; have f4_ := f1_.symm; have f5_ := f3_.symm; clear f1_ f2_ f3_; subst f4_; subst f5_))
        obtain ⟨Ao28, co28, eo28⟩ := Kd.R_slice HO328.out
        (first | subst eo28 | (injection eo28 with f1_ f2_ f3_; have f4_ := f1_.symm; have f5_ := f3_.symm; clear f1_ f2_ f3_; subst f4_; subst f5_))
        refine hK.out _ _ ⟨((HB.out.cell (World.block_lt_of_cell? w _ hw330_0)).trans hw330_0), ((HB.out.cell (World.block_lt_of_cell? w _ hw331_0)).trans hw331_0), ((HB.out.cell (World.block_lt_of_cell? w _ hw335_0)).trans hw335_0), ((HB.out.cell (World.block_lt_of_cell? w _ hw336_0)).trans hw336_0)⟩ (fun hHeld => ?_)
        clear hK K
        refine norm_ (a' := ?_) ?_ ?_
        rotate_left
        ·show Act.put _ (some 42) _ = _
         simp only [Act.put, List.setIfInBounds_toArray, List.set_cons_zero, List.set_cons_succ, i64_w, i32_w]
         rfl
        refine one_ (i := 6) (N := some 43) #[true, true, true, true, true, true, true, false, false, false, false, false, false, false, false, false, false, false, false, false, false, false, false, false, false] rfl rfl (one_of HT_.out (by kernel_rfl)) (by decide) (fun K hK => ?_)
        refine goes_ Try.func8 (by kernel_rfl) rfl #[.slice Ao27 t323.length co27, .slice Ao28 t326.length co28] (by rfl) rfl rfl (by (try simp only [List.map_toArray, List.map_cons, List.map_nil]); first | done | rfl | (simp only [List.length_drop, List.length_take]; rfl)) ?_
        with_reducible refine (r06_Same.calls kj5 _ _ t323 _ _ t326 true _ ?side1 ?side2 ?side3 ?side4 A17.out).mono ?_
        (case side1 => repeat (first | exact (Kd.R_reads' HO325.out).2.2 | (with_reducible refine Kd.C_alloc ?_ _) | (with_reducible refine Kd.C_drewN ?_ _) | (with_reducible refine Kd.C_drew ?_)))
        (case side2 => exact (Kd.R_reads' HO325.out).2.1)
        (case side3 => repeat (first | exact (Kd.R_reads' HO328.out).2.2 | (with_reducible refine Kd.C_alloc ?_ _) | (with_reducible refine Kd.C_drewN ?_ _) | (with_reducible refine Kd.C_drew ?_)))
        (case side4 => exact (Kd.R_reads' HO328.out).2.1)
        rintro e w' ⟨rfl, ⟨nd, rfl⟩⟩
        refine ⟨_, rfl, ?_⟩
        refine hK.out _ _ ⟨((HB.out.cell (World.block_lt_of_cell? w _ hw330_0)).trans hw330_0), ((HB.out.cell (World.block_lt_of_cell? w _ hw331_0)).trans hw331_0), ((HB.out.cell (World.block_lt_of_cell? w _ hw335_0)).trans hw335_0), ((HB.out.cell (World.block_lt_of_cell? w _ hw336_0)).trans hw336_0)⟩ (fun hHeld => ?_)
        clear hK K
        refine norm_ (a' := ?_) ?_ ?_
        rotate_left
        ·show Act.put _ (some 43) _ = _
         simp only [Act.put, List.setIfInBounds_toArray, List.set_cons_zero, List.set_cons_succ, i64_w, i32_w]
         rfl
        refine pure_ (i := 7) (N := some 44) (v := ?_) (a' := ?_) #[true, true, true, true, true, true, true, true, false, false, false, false, false, false, false, false, false, false, false, false, false, false, false, false, false] rfl rfl (any_of HT_.out (by kernel_rfl)) (fun _ _ _ h => h) (Or.inl ⟨by rfl, ?_⟩) ?_ ?_
        rotate_left
        ·intro w'
         go_simp
         with_reducible rfl
        rotate_left
        ·simp only [Act.put, List.setIfInBounds_toArray, List.set_cons_zero, List.set_cons_succ, i64_w, i32_w]
         rfl
        refine pure_ (i := 8) (N := some 45) (v := ?_) (a' := ?_) #[true, true, true, true, true, true, true, true, true, false, false, false, false, false, false, false, false, false, false, false, false, false, false, false, false] rfl rfl (any_of HT_.out (by kernel_rfl)) (fun _ _ _ h => h) (Or.inl ⟨by rfl, ?_⟩) ?_ ?_
        rotate_left
        ·intro w'
         go_simp
         with_reducible rfl
        rotate_left
        ·simp only [Act.put, List.setIfInBounds_toArray, List.set_cons_zero, List.set_cons_succ, i64_w, i32_w]
         rfl
        refine pure_ (i := 9) (N := some 46) (v := ?_) (a' := ?_) #[true, true, true, true, true, true, true, true, true, true, false, false, false, false, false, false, false, false, false, false, false, false, false, false, false] rfl rfl (any_of HT_.out (by kernel_rfl)) (fun _ _ _ h => h) (Or.inl ⟨by rfl, ?_⟩) ?_ ?_
        rotate_left
        ·intro w'
         go_simp
         with_reducible rfl
        rotate_left
        ·simp only [Act.put, List.setIfInBounds_toArray, List.set_cons_zero, List.set_cons_succ, i64_w, i32_w]
         rfl
        refine pure_ (i := 11) (N := some 48) (v := ?_) (a' := ?_) #[true, true, true, true, true, true, true, true, true, true, false, true, false, false, false, false, false, false, false, false, false, false, false, false, false] rfl rfl (any_of HT_.out (by kernel_rfl)) (fun _ _ _ h => h) (Or.inl ⟨by rfl, ?_⟩) ?_ ?_
        rotate_left
        ·intro w'
         go_simp
         with_reducible rfl
        rotate_left
        ·simp only [Act.put, List.setIfInBounds_toArray, List.set_cons_zero, List.set_cons_succ, i64_w, i32_w]
         rfl
        refine pure_ (i := 12) (N := some 49) (v := ?_) (a' := ?_) #[true, true, true, true, true, true, true, true, true, true, false, true, true, false, false, false, false, false, false, false, false, false, false, false, false] rfl rfl (any_of HT_.out (by kernel_rfl)) (fun _ _ _ h => h) (Or.inl ⟨by rfl, ?_⟩) ?_ ?_
        rotate_left
        ·intro w'
         go_simp
         with_reducible rfl
        rotate_left
        ·simp only [Act.put, List.setIfInBounds_toArray, List.set_cons_zero, List.set_cons_succ, i64_w, i32_w]
         rfl
        refine pure_ (i := 15) (N := some 52) (v := ?_) (a' := ?_) #[true, true, true, true, true, true, true, true, true, true, false, true, true, false, false, true, false, false, false, false, false, false, false, false, false] rfl rfl (any_of HT_.out (by kernel_rfl)) (fun _ _ _ h => h) (Or.inl ⟨by rfl, ?_⟩) ?_ ?_
        rotate_left
        ·intro w'
         go_simp
         with_reducible rfl
        rotate_left
        ·simp only [Act.put, List.setIfInBounds_toArray, List.set_cons_zero, List.set_cons_succ, i64_w, i32_w]
         rfl
        refine pure_ (i := 16) (N := some 53) (v := ?_) (a' := ?_) #[true, true, true, true, true, true, true, true, true, true, false, true, true, false, false, true, true, false, false, false, false, false, false, false, false] rfl rfl (any_of HT_.out (by kernel_rfl)) (fun _ _ _ h => h) (Or.inl ⟨by rfl, ?_⟩) ?_ ?_
        rotate_left
        ·intro w'
         go_simp
         with_reducible rfl
        rotate_left
        ·simp only [Act.put, List.setIfInBounds_toArray, List.set_cons_zero, List.set_cons_succ, i64_w, i32_w]
         rfl
        refine pure_ (i := 18) (N := some 55) (v := ?_) (a' := ?_) #[true, true, true, true, true, true, true, true, true, true, false, true, true, false, false, true, true, false, true, false, false, false, false, false, false] rfl rfl (any_of HT_.out (by kernel_rfl)) (fun _ _ _ h => h) (Or.inl ⟨by rfl, ?_⟩) ?_ ?_
        rotate_left
        ·intro w'
         go_simp
         with_reducible rfl
        rotate_left
        ·simp only [Act.put, List.setIfInBounds_toArray, List.set_cons_zero, List.set_cons_succ, i64_w, i32_w]
         rfl
        refine pure_ (i := 19) (N := some 56) (v := ?_) (a' := ?_) #[true, true, true, true, true, true, true, true, true, true, false, true, true, false, false, true, true, false, true, true, false, false, false, false, false] rfl rfl (any_of HT_.out (by kernel_rfl)) (fun _ _ _ h => h) (Or.inl ⟨by rfl, ?_⟩) ?_ ?_
        rotate_left
        ·intro w'
         go_simp
         with_reducible rfl
        rotate_left
        ·simp only [Act.put, List.setIfInBounds_toArray, List.set_cons_zero, List.set_cons_succ, i64_w, i32_w]
         rfl
        refine take_ (i := 10) (N := some 47) (v := ?_) (a' := ?_) #[true, true, true, true, true, true, true, true, true, true, true, true, true, false, false, true, true, false, true, true, false, false, false, false, false] rfl rfl (take_ofW HT_.out HW_.out (by kernel_rfl)) (fun _ _ _ h => h) (Or.inl ⟨by rfl, ?_⟩) hHeld ?_ ?_
        rotate_left
        ·rintro w' ⟨s0, s1, s2, s3⟩
         go_simp
         with_reducible rfl
        rotate_left
        ·simp only [Act.put, List.setIfInBounds_toArray, List.set_cons_zero, List.set_cons_succ, i64_w, i32_w]
         rfl
        refine take_ (i := 13) (N := some 50) (v := ?_) (a' := ?_) #[true, true, true, true, true, true, true, true, true, true, true, true, true, true, false, true, true, false, true, true, false, false, false, false, false] rfl rfl (take_ofW HT_.out HW_.out (by kernel_rfl)) (fun _ _ _ h => h) (Or.inl ⟨by rfl, ?_⟩) hHeld ?_ ?_
        rotate_left
        ·rintro w' ⟨s0, s1, s2, s3⟩
         go_simp
         with_reducible rfl
        rotate_left
        ·simp only [Act.put, List.setIfInBounds_toArray, List.set_cons_zero, List.set_cons_succ, i64_w, i32_w]
         rfl
        refine take_ (i := 17) (N := some 54) (v := ?_) (a' := ?_) #[true, true, true, true, true, true, true, true, true, true, true, true, true, true, false, true, true, true, true, true, false, false, false, false, false] rfl rfl (take_ofW HT_.out HW_.out (by kernel_rfl)) (fun _ _ _ h => h) (Or.inl ⟨by rfl, ?_⟩) hHeld ?_ ?_
        rotate_left
        ·rintro w' ⟨s0, s1, s2, s3⟩
         go_simp
         with_reducible rfl
        rotate_left
        ·simp only [Act.put, List.setIfInBounds_toArray, List.set_cons_zero, List.set_cons_succ, i64_w, i32_w]
         rfl
        refine take_ (i := 20) (N := some 57) (v := ?_) (a' := ?_) #[true, true, true, true, true, true, true, true, true, true, true, true, true, true, false, true, true, true, true, true, true, false, false, false, false] rfl rfl (take_ofW HT_.out HW_.out (by kernel_rfl)) (fun _ _ _ h => h) (Or.inl ⟨by rfl, ?_⟩) hHeld ?_ ?_
        rotate_left
        ·rintro w' ⟨s0, s1, s2, s3⟩
         go_simp
         with_reducible rfl
        rotate_left
        ·simp only [Act.put, List.setIfInBounds_toArray, List.set_cons_zero, List.set_cons_succ, i64_w, i32_w]
         rfl
        refine one_ (i := 14) (N := some 51) #[true, true, true, true, true, true, true, true, true, true, true, true, true, true, true, true, true, true, true, true, true, false, false, false, false] rfl rfl (one_of HT_.out (by kernel_rfl)) (by decide) (fun K hK => ?_)
        refine goes_ Try.func11 (by kernel_rfl) rfl #[.slice A330_0 (rd_L5 l2 0).length c330_0, .slice A331_0 (rd_L5 l2 1).length c331_0] (by rfl) rfl rfl (by (try simp only [List.map_toArray, List.map_cons, List.map_nil]); first | done | rfl | (simp only [List.length_drop, List.length_take]; rfl)) ?_
        with_reducible refine (hunk_Texts.calls kj5 _ _ (rd_L5 l2 0) _ _ (rd_L5 l2 1) t332 _ ?side1 ?side2 ?side3 ?side4 A21.out).mono ?_
        (case side1 => repeat (first | exact (Kd.C_below HR330_0.out (by repeat (first | (with_reducible first | exact HB.out | apply below_alloc | apply Zd | apply below_drew1) | exact HB.out))) | (with_reducible refine Kd.C_alloc ?_ _) | (with_reducible refine Kd.C_drewN ?_ _) | (with_reducible refine Kd.C_drew ?_)))
        (case side2 => exact HC330_0.out)
        (case side3 => repeat (first | exact (Kd.C_below HR331_0.out (by repeat (first | (with_reducible first | exact HB.out | apply below_alloc | apply Zd | apply below_drew1) | exact HB.out))) | (with_reducible refine Kd.C_alloc ?_ _) | (with_reducible refine Kd.C_drewN ?_ _) | (with_reducible refine Kd.C_drew ?_)))
        (case side4 => exact HC331_0.out)
        rintro e w29 ⟨v333, rfl, ho0, hb⟩
        refine ⟨_, rfl, ?_⟩
        have n0_ := Zm (Kd.R_elder' (by (with_reducible repeat (first | apply Kd.R_alloc | apply Kd.R_drewN | apply Kd.R_drew)); exact HO325.out) (Kd.R_base ho0) hb)
        have n1_ := Zm (Kd.R_elder' (by (with_reducible repeat (first | apply Kd.R_alloc | apply Kd.R_drewN | apply Kd.R_drew)); exact HO328.out) (Kd.R_base ho0) hb)
        have n2_ := Zm (Kd.R_lower (Kd.R_new' (Kd.R_new' ho0 (Kd.R_lt (by (with_reducible repeat (first | apply Kd.R_alloc | apply Kd.R_drewN | apply Kd.R_drew)); exact HO325.out))) (Kd.R_lt (by (with_reducible repeat (first | apply Kd.R_alloc | apply Kd.R_drewN | apply Kd.R_drew)); exact HO328.out))) (below_size (by repeat (first | (with_reducible first | exact HB.out | apply below_alloc | apply Zd | apply below_drew1) | exact HB.out))))
        have n3_ := Zm (below_step (by repeat (first | (with_reducible first | exact HB.out | apply below_alloc | apply Zd | apply below_drew1) | exact HB.out)) hb)
        clear HO325
        clear HO328
        clear HB
        have HO325 := n0_
        have HO328 := n1_
        have HO334 := n2_
        have HB := n3_
        clear n0_ n1_ n2_ n3_
        (try clear hb)
        (try clear hb2)
        (try clear hk)
        (try clear hi)
        (try clear ho0)
        refine hK.out _ _ ⟨((HB.out.cell (World.block_lt_of_cell? w _ hw330_0)).trans hw330_0), ((HB.out.cell (World.block_lt_of_cell? w _ hw331_0)).trans hw331_0), ((HB.out.cell (World.block_lt_of_cell? w _ hw335_0)).trans hw335_0), ((HB.out.cell (World.block_lt_of_cell? w _ hw336_0)).trans hw336_0)⟩ (fun hHeld => ?_)
        clear hK K
        refine norm_ (a' := ?_) ?_ ?_
        rotate_left
        ·show Act.put _ (some 51) _ = _
         simp only [Act.put, List.setIfInBounds_toArray, List.set_cons_zero, List.set_cons_succ, i64_w, i32_w]
         rfl
        refine one_ (i := 21) (N := some 58) #[true, true, true, true, true, true, true, true, true, true, true, true, true, true, true, true, true, true, true, true, true, true, false, false, false] rfl rfl (one_of HT_.out (by kernel_rfl)) (by decide) (fun K hK => ?_)
        refine goes_ Try.func12 (by kernel_rfl) rfl #[.slice A335_0 (rd_L5 l2 0).length c335_0, .slice A336_0 (rd_L5 l2 1).length c336_0] (by rfl) rfl rfl (by (try simp only [List.map_toArray, List.map_cons, List.map_nil]); first | done | rfl | (rw [QE335.out.1, QE335.out.2, QE336.out.1, QE336.out.2] <;> rfl) | (simp only [List.length_drop, List.length_take]; rfl)) ?_
        with_reducible refine (r06_Texts.calls kj5 _ _ (rd_L5 l2 0) _ _ (rd_L5 l2 1) t337 _ ?side1 ?side2 ?side3 ?side4 A22.out).mono ?_
        (case side1 => repeat (first | exact (Kd.C_below HR335_0.out HB.out) | (with_reducible refine Kd.C_alloc ?_ _) | (with_reducible refine Kd.C_drewN ?_ _) | (with_reducible refine Kd.C_drew ?_)))
        (case side2 => exact HC335_0.out)
        (case side3 => repeat (first | exact (Kd.C_below HR336_0.out HB.out) | (with_reducible refine Kd.C_alloc ?_ _) | (with_reducible refine Kd.C_drewN ?_ _) | (with_reducible refine Kd.C_drew ?_)))
        (case side4 => exact HC336_0.out)
        rintro e w30 ⟨v338, rfl, ho0, hb⟩
        refine ⟨_, rfl, ?_⟩
        have n0_ := Zm (Kd.R_elder' (by (with_reducible repeat (first | apply Kd.R_alloc | apply Kd.R_drewN | apply Kd.R_drew)); exact HO325.out) (Kd.R_base ho0) hb)
        have n1_ := Zm (Kd.R_elder' (by (with_reducible repeat (first | apply Kd.R_alloc | apply Kd.R_drewN | apply Kd.R_drew)); exact HO328.out) (Kd.R_base ho0) hb)
        have n2_ := Zm (Kd.R_elder' (by (with_reducible repeat (first | apply Kd.R_alloc | apply Kd.R_drewN | apply Kd.R_drew)); exact HO334.out) (Kd.R_base ho0) hb)
        have n3_ := Zm (Kd.R_lower (Kd.R_new' (Kd.R_new' (Kd.R_new' ho0 (Kd.R_lt (by (with_reducible repeat (first | apply Kd.R_alloc | apply Kd.R_drewN | apply Kd.R_drew)); exact HO325.out))) (Kd.R_lt (by (with_reducible repeat (first | apply Kd.R_alloc | apply Kd.R_drewN | apply Kd.R_drew)); exact HO328.out))) (Kd.R_lt (by (with_reducible repeat (first | apply Kd.R_alloc | apply Kd.R_drewN | apply Kd.R_drew)); exact HO334.out))) (below_size (by repeat (first | (with_reducible first | exact HB.out | apply below_alloc | apply Zd | apply below_drew1) | exact HB.out))))
        have n4_ := Zm (below_step (by repeat (first | (with_reducible first | exact HB.out | apply below_alloc | apply Zd | apply below_drew1) | exact HB.out)) hb)
        clear HO325
        clear HO328
        clear HO334
        clear HB
        have HO325 := n0_
        have HO328 := n1_
        have HO334 := n2_
        have HO339 := n3_
        have HB := n4_
        clear n0_ n1_ n2_ n3_ n4_
        (try clear hb)
        (try clear hb2)
        (try clear hk)
        (try clear hi)
        (try clear ho0)
        obtain ⟨Ao31, co31, eo31⟩ := Kd.R_slice HO334.out
        (first | subst eo31 | (injection eo31 with f1_ f2_ f3_; have f4_ := f1_.symm; have f5_ := f3_.symm; clear f1_ f2_ f3_; subst f4_; subst f5_))
        obtain ⟨Ao32, co32, eo32⟩ := Kd.R_slice HO339.out
        (first | subst eo32 | (injection eo32 with f1_ f2_ f3_; have f4_ := f1_.symm; have f5_ := f3_.symm; clear f1_ f2_ f3_; subst f4_; subst f5_))
        refine hK.out _ _ ⟨((HB.out.cell (World.block_lt_of_cell? w _ hw330_0)).trans hw330_0), ((HB.out.cell (World.block_lt_of_cell? w _ hw331_0)).trans hw331_0), ((HB.out.cell (World.block_lt_of_cell? w _ hw335_0)).trans hw335_0), ((HB.out.cell (World.block_lt_of_cell? w _ hw336_0)).trans hw336_0)⟩ (fun hHeld => ?_)
        clear hK K
        refine norm_ (a' := ?_) ?_ ?_
        rotate_left
        ·show Act.put _ (some 58) _ = _
         simp only [Act.put, List.setIfInBounds_toArray, List.set_cons_zero, List.set_cons_succ, i64_w, i32_w]
         rfl
        refine one_ (i := 22) (N := some 59) #[true, true, true, true, true, true, true, true, true, true, true, true, true, true, true, true, true, true, true, true, true, true, true, false, false] rfl rfl (one_of HT_.out (by kernel_rfl)) (by decide) (fun K hK => ?_)
        refine goes_ Try.func8 (by kernel_rfl) rfl #[.slice Ao31 t332.length co31, .slice Ao32 t337.length co32] (by rfl) rfl rfl (by (try simp only [List.map_toArray, List.map_cons, List.map_nil]); first | done | rfl | (simp only [List.length_drop, List.length_take]; rfl)) ?_
        with_reducible refine (r06_Same.calls kj5 _ _ t332 _ _ t337 t340 _ ?side1 ?side2 ?side3 ?side4 A23.out).mono ?_
        (case side1 => repeat (first | exact (Kd.R_reads' HO334.out).2.2 | (with_reducible refine Kd.C_alloc ?_ _) | (with_reducible refine Kd.C_drewN ?_ _) | (with_reducible refine Kd.C_drew ?_)))
        (case side2 => exact (Kd.R_reads' HO334.out).2.1)
        (case side3 => repeat (first | exact (Kd.R_reads' HO339.out).2.2 | (with_reducible refine Kd.C_alloc ?_ _) | (with_reducible refine Kd.C_drewN ?_ _) | (with_reducible refine Kd.C_drew ?_)))
        (case side4 => exact (Kd.R_reads' HO339.out).2.1)
        rintro e w' ⟨rfl, ⟨nd, rfl⟩⟩
        refine ⟨_, rfl, ?_⟩
        refine hK.out _ _ ⟨((HB.out.cell (World.block_lt_of_cell? w _ hw330_0)).trans hw330_0), ((HB.out.cell (World.block_lt_of_cell? w _ hw331_0)).trans hw331_0), ((HB.out.cell (World.block_lt_of_cell? w _ hw335_0)).trans hw335_0), ((HB.out.cell (World.block_lt_of_cell? w _ hw336_0)).trans hw336_0)⟩ (fun hHeld => ?_)
        clear hK K
        refine norm_ (a' := ?_) ?_ ?_
        rotate_left
        ·show Act.put _ (some 59) _ = _
         simp only [Act.put, List.setIfInBounds_toArray, List.set_cons_zero, List.set_cons_succ, i64_w, i32_w]
         rfl
        refine pure_ (i := 23) (N := some 60) (v := ?_) (a' := ?_) #[true, true, true, true, true, true, true, true, true, true, true, true, true, true, true, true, true, true, true, true, true, true, true, true, false] rfl rfl (any_of HT_.out (by kernel_rfl)) (fun _ _ _ h => h) (Or.inl ⟨by rfl, ?_⟩) ?_ ?_
        rotate_left
        ·intro w'
         go_simp
         with_reducible rfl
        rotate_left
        ·simp only [Act.put, List.setIfInBounds_toArray, List.set_cons_zero, List.set_cons_succ, i64_w, i32_w]
         rfl
        refine pure_ (i := 24) (N := some 6) (v := ?_) (a' := ?_) #[true, true, true, true, true, true, true, true, true, true, true, true, true, true, true, true, true, true, true, true, true, true, true, true, true] rfl rfl (any_of HT_.out (by kernel_rfl)) (fun _ _ _ h => h) (Or.inl ⟨by rfl, ?_⟩) ?_ ?_
        rotate_left
        ·intro w'
         go_simp
         with_reducible rfl
        rotate_left
        ·simp only [Act.put, List.setIfInBounds_toArray, List.set_cons_zero, List.set_cons_succ, i64_w, i32_w]
         rfl
        refine done_ (done_of HT_.out (by kernel_rfl)) ?_
        try go_wp2
        go_ret
        exact ⟨by first | rfl | (simp [errW_none, errW_some] <;> rfl) | (simp [*, errW_none, errW_some] <;> rfl), by repeat (first | (with_reducible first | exact HB.out | apply below_alloc | apply Zd | apply below_drew1) | exact HB.out)⟩
       ·rw [if_neg c20] at H
        exact absurd H (by simp)
      ·rw [if_neg c19] at H
       exact absurd H (by simp)
     ·replace c18 := Bool.eq_false_iff.mpr c18
      subst c18
      have H1 : (none) = some r := by rw [if_neg (show ¬ (false = true) by decide)] at H; exact H
      clear H
      have H := H1
      clear H1
      exact absurd H (by simp)
 ·replace c5 := Bool.eq_false_iff.mpr c5
  subst c5
  have H1 : (none) = some r := by rw [if_neg (show ¬ (false = true) by decide)] at H; exact H
  clear H
  have H := H1
  clear H1
  exact absurd H (by simp)
/-! ### l06_short: function 13 -/
def l06_short.f (l0 : List ByteArray) : Option (Bool) := some (decide ((l0.length : Int) ≤ 100))
set_option maxHeartbeats 8000000 in
set_option maxRecDepth 100000 in
theorem l06_short.calls (A0 : Option Addr) (c0 : Nat) (l0 : List ByteArray) (r : Bool) (w : World) (hr0 : Kd.C Kd.string w A0 l0.length l0) (hc0 : l0.length ≤ c0) (h : l06_short.f l0 = some r) :
  Calls Try.prog 13 #[.slice A0 l0.length c0] w fun e w' => e = .returned (.bool r) ∧ Drawn0 w w' := by
 have HR0 := Zm hr0
 have HC0 := Zm hc0
 clear hr0 hc0
 have H : (some (decide ((l0.length : Int) ≤ 100))) = some r := h
 clear h
 obtain rfl := Option.some.inj H
 go_enter Try.func13, Try.ntmps13
 go_wp2
 go_ret
 exact ⟨by first | rfl | (simp; done) | (simp [*]; done), by repeat (first | exact Drawn0.refl _ | apply Drawn0.step)⟩
end Go.Proofs.Ytphghffdaceaoaa.PHunk
